/- Every row of numbers: the law chequerlaw08.PlainDigits returns true, without a panic, and the input reads as it did. -/
import Derived.Test.YtoiecgmnnjipfaaRows
import Derived.Test.YtoiecgmnnjipfaaRow
import Derived.Test.YtoiecgmnnjipfaaDg
namespace Go.Proofs.Ytoiecgmnnjipfaa
open Go.ChangeShapes Go.WideShapes Go.ChangeAt Go.RowKit

theorem ownPlainDigits : ownKnob Try.prog.godebug = none := by kernel_rfl
theorem laidOutPlainDigits : laidOutB Try.prog = true := by kernel_rfl
set_option maxRecDepth 100000 in
theorem liftedPlainDigits (os : Os) (started : os.Started) (H : Type) (enc : TypeId × Value → H) :
    ReturnsInHanded {} Try.checked os 8 .any (Rows.plainDigitsSpec.pre6 enc Try.prog Try.f8 Rows.plainDigitsRow.domain false) (Rows.plainDigitsSpec.post enc Try.prog Try.f8 false true false false) := by
  refine returnsInHanded_of_change (C := Try.checked) ownPlainDigits started (by kernel_rfl) Try.func8
    (ChangeSpec.witness6 (enc := enc) (C := Try.checked) false ⟨#[], #[.slice none 0 0], []⟩ 8 (by kernel_rfl) (by kernel_rfl) (by kernel_rfl) (by kernel_rfl)) ?_
  intro W base args ds gs before hval0 hW hcnd _
  have hval : ∀ (j : Nat) t v, Try.f8.params[j]? = some t → args[j]? = some v → Value.okWide Try.prog W .any base t v := hval0
  have hW' := hW
  obtain ⟨p, q, hA00, hV, rfl, hfz, hnd⟩ := hW
  have hA : DataW.TrodAll enc Try.prog W 0 (fun _ => true) true Try.f8.params.toList args.toList ds p := hA00
  rw [Try.params8] at hA hval
  obtain ⟨v0, vs0, d0, ds0, p0, q0, hargs, rfl, rfl, h0, r0⟩ := trodAll_cons hA
  obtain ⟨rfl, rfl, rfl⟩ := trodAll_nil r0
  obtain rfl : args = #[v0] := by cases args; simp_all
  obtain ⟨rfl, rfl⟩ := trodVars_none hV
  have k0 := h0
  have lt0 : ∀ x ∈ p0, x.block < W.heap.size := by obtain ⟨m, hm⟩ := k0; exact DataW.trod_lt m _ _ _ hm
  obtain ⟨a0, len0, cap0, rfl⟩ := okWide_slice Try.underlying27 (hval 0 27 v0 rfl rfl)
  have hsl : ∃ zs : List Int, zs.length = len0 ∧ len0 ≤ cap0 ∧ len0 ≤ maxLen ∧ (∀ n ∈ zs, (Lit.int .u64 n).wf = true) ∧ ((a0 = none ∧ zs = []) ∨ ∃ x, a0 = some x ∧ (∀ i, i < zs.length → W.cell? (x.add i) = some (.int .u64 (zs.getD i 0)))) := by
    obtain ⟨fuel, hf⟩ := h0
    rcases open_ints Try.underlying27 Try.underlying62 (by kernel_rfl) hf with ⟨hcs, _⟩ | ⟨x, l, c, zs, hcs, _, hl, hm, hz, _, hcell, hwz⟩
    · simp [Value.cells] at hcs
      obtain ⟨rfl, rfl, rfl⟩ := hcs
      exact ⟨[], rfl, Nat.le_refl _, by simp, by simp, .inl ⟨rfl, rfl⟩⟩
    · simp [Value.cells] at hcs
      obtain ⟨rfl, rfl, rfl⟩ := hcs
      have hzl : zs.length = cap0 := by simpa using hz
      refine ⟨zs.take len0, by rw [List.length_take]; omega, by omega, by omega, fun n hn => hwz n (List.mem_of_mem_take hn), .inr ⟨x, rfl, fun i hi => ?_⟩⟩
      rw [List.length_take] at hi
      rw [hcell i (by omega)]
      congr 2
      simp [List.getD, List.getElem?_take, show i < len0 by omega]
  obtain ⟨zs, hzl, hcap0, hzm, hzw, hzc⟩ := hsl
  have hzr : ∀ x ∈ zs, _ := fun x hx => wf_u64 (hzw x hx)
  obtain ⟨A0, hA0, hbel⟩ := slice_in Try.prog W .u64 a0 len0 cap0 zs hzl hzc
  clear hA00 hval0
  have hspec := PlainDigits_spec A0 a0 cap0 zs hzr (by rw [hzl]; exact hzm) (by rw [hzl]; exact hcap0) hA0
  rw [hzl] at hspec
  refine (hbel _ _ _ hspec).mono fun e W' ⟨he, bel⟩ => ?_
  subst he
  exact ⟨_, rfl, _, _, _, [], _, [], hW', trodAll_mk1 (shut_bool Try.underlying4 _), (trodAll_cons_mk (Below.trod laidOutPlainDigits (by kernel_rfl) (of_decide_eq_true (by kernel_rfl)) k0 bel lt0) trodAll_mk0), rfl, bel.frame _, fun h => by cases h⟩
/-- Every row of numbers: the law chequerlaw08.PlainDigits returns true, without a panic, and the input reads as it did. -/
theorem provedPlainDigits : Rows.PlainDigitsSaid :=
  OpenClaim.holds_of_wide 8 Try.f8 rfl rfl rfl rfl rfl rfl rfl ⟨rfl, rfl, rfl, rfl, rfl⟩ rfl rfl rfl rfl rfl (by kernel_rfl) Try.func8 (by kernel_rfl)
    (of_decide_eq_true (by kernel_rfl)) (by unfold Func.isWrapper; first | (rw [if_pos (by decide +kernel)]; kernel_rfl) | (rw [if_neg (by decide +kernel)]; exact ⟨rfl, rfl⟩))
    (fun os started H enc _ => liftedPlainDigits os started H enc)
end Go.Proofs.Ytoiecgmnnjipfaa
