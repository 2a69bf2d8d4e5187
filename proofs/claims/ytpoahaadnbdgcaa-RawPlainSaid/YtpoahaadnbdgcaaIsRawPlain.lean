/- Every head and every numbers: the law chequerlaw09.RawPlain returns true, without a panic, and the input reads as it did. -/
import Derived.Test.YtpoahaadnbdgcaaRows
import Derived.Test.YtpoahaadnbdgcaaRow
import Derived.Test.YtpoahaadnbdgcaaRpl
namespace Go.Proofs.Ytpoahaadnbdgcaa
open Go.ChangeShapes Go.WideShapes Go.ChangeAt Go.RowKit

theorem ownRawPlain : ownKnob Try.prog.godebug = none := by kernel_rfl
theorem laidOutRawPlain : laidOutB Try.prog = true := by kernel_rfl
set_option maxRecDepth 100000 in
theorem liftedRawPlain (os : Os) (started : os.Started) (H : Type) (enc : TypeId × Value → H) :
    ReturnsInHanded {} Try.checked os 3 .any (Rows.rawPlainSpec.pre6 enc Try.prog Try.f3 Rows.rawPlainRow.domain false) (Rows.rawPlainSpec.post enc Try.prog Try.f3 false true false false) := by
  refine returnsInHanded_of_change (C := Try.checked) ownRawPlain started (by kernel_rfl) Try.func3
    (ChangeSpec.witness6 (enc := enc) (C := Try.checked) false ⟨#[], #[.agg #[.int .i64 0, .int .i64 0, .int .i64 0, .int .i64 0], .slice none 0 0], []⟩ 8 (by kernel_rfl) (by kernel_rfl) (by kernel_rfl) (by kernel_rfl)) ?_
  intro W base args ds gs before hval0 hW hcnd _
  have hval : ∀ (j : Nat) t v, Try.f3.params[j]? = some t → args[j]? = some v → Value.okWide Try.prog W .any base t v := hval0
  have hW' := hW
  obtain ⟨p, q, hA00, hV, rfl, hfz, hnd⟩ := hW
  have hA : DataW.TrodAll enc Try.prog W 0 (fun _ => true) true Try.f3.params.toList args.toList ds p := hA00
  rw [Try.params3] at hA hval
  obtain ⟨v0, vs0, d0, ds0, p0, q0, hargs, rfl, rfl, h0, r0⟩ := trodAll_cons hA
  obtain ⟨v1, vs1, d1, ds1, p1, q1, rfl, rfl, rfl, h1, r1⟩ := trodAll_cons r0
  obtain ⟨rfl, rfl, rfl⟩ := trodAll_nil r1
  obtain rfl : args = #[v0, v1] := by cases args; simp_all
  obtain ⟨rfl, rfl⟩ := trodVars_none hV
  have k0 := h0
  have lt0 : ∀ x ∈ p0, x.block < W.heap.size := by obtain ⟨m, hm⟩ := k0; exact DataW.trod_lt m _ _ _ hm
  obtain ⟨c0, c1, c2, c3, y0, y1, y2, y3, m, rfl, rfl, rfl, hy0, hy1, hy2, hy3⟩ := Go.Joins.open_agg4 Try.underlying23 (by kernel_rfl) (by kernel_rfl) (hval 0 23 v0 rfl rfl) h0
  obtain ⟨K, e0, rfl, wh0⟩ := DataW.trod_int Try.underlying3 hy0
  simp at e0
  subst e0
  have bh0 := wf_i64 wh0
  obtain ⟨W0, e1, rfl, wh1⟩ := DataW.trod_int Try.underlying3 hy1
  simp at e1
  subst e1
  have bh1 := wf_i64 wh1
  obtain ⟨H0, e2, rfl, wh2⟩ := DataW.trod_int Try.underlying3 hy2
  simp at e2
  subst e2
  have bh2 := wf_i64 wh2
  obtain ⟨M, e3, rfl, wh3⟩ := DataW.trod_int Try.underlying3 hy3
  simp at e3
  subst e3
  have bh3 := wf_i64 wh3
  have k1 := h1
  have lt1 : ∀ x ∈ p1, x.block < W.heap.size := by obtain ⟨m, hm⟩ := k1; exact DataW.trod_lt m _ _ _ hm
  obtain ⟨a0, len0, cap0, rfl⟩ := okWide_slice Try.underlying24 (hval 1 24 v1 rfl rfl)
  have hsl : ∃ zs : List Int, zs.length = len0 ∧ len0 ≤ cap0 ∧ len0 ≤ maxLen ∧ (∀ n ∈ zs, (Lit.int .i64 n).wf = true) ∧ ((a0 = none ∧ zs = []) ∨ ∃ x, a0 = some x ∧ (∀ i, i < zs.length → W.cell? (x.add i) = some (.int .i64 (zs.getD i 0)))) := by
    obtain ⟨fuel, hf⟩ := h1
    rcases open_ints Try.underlying24 Try.underlying3 (by kernel_rfl) hf with ⟨hcs, _⟩ | ⟨x, l, c, zs, hcs, _, hl, hm, hz, _, hcell, hwz⟩
    · simp [Value.cells] at hcs
      obtain ⟨rfl, rfl, rfl⟩ := hcs
      exact ⟨[], rfl, Nat.le_refl _, by simp, by simp, .inl ⟨rfl, rfl⟩⟩
    · simp [Value.cells] at hcs
      obtain ⟨rfl, rfl, rfl⟩ := hcs
      have hzl : zs.length = cap0 := by simpa using hz
      refine ⟨zs.take len0, by rw [List.length_take]; omega, by omega, by omega, fun n hn => hwz n (List.mem_of_mem_take hn), .inr ⟨x, rfl, fun i hi => ?_⟩⟩
      rw [List.length_take] at hi
      rw [hcell i (by omega)]
      congr 2
      simp [List.getD, show i < len0 by omega]
  obtain ⟨zs, hzl, hcap0, hzm, hzw, hzc⟩ := hsl
  have hzr : ∀ x ∈ zs, _ := fun x hx => wf_i64 (hzw x hx)
  obtain ⟨A0, hA0, hbel⟩ := slice_in Try.prog W .i64 a0 len0 cap0 zs hzl hzc
  clear hA00 hval0
  have hspec := RawPlain_spec A0 a0 cap0 zs hzr (by rw [hzl]; exact hzm) hA0 K W0 H0 M bh0.1 bh0.2 bh1.1 bh1.2 bh2.1 bh2.2 bh3.1 bh3.2
  rw [hzl] at hspec
  refine (hbel _ _ _ hspec).mono fun e W' ⟨he, bel⟩ => ?_
  subst he
  exact ⟨_, rfl, _, _, _, [], _, [], hW', trodAll_mk1 (shut_bool Try.underlying4 _), (trodAll_cons_mk (Below.trod laidOutRawPlain (by kernel_rfl) (of_decide_eq_true (by kernel_rfl)) k0 bel lt0) (trodAll_cons_mk (Below.trod laidOutRawPlain (by kernel_rfl) (of_decide_eq_true (by kernel_rfl)) k1 bel lt1) trodAll_mk0)), rfl, bel.frame _, fun h => by cases h⟩
/-- Every head and every numbers: the law chequerlaw09.RawPlain returns true, without a panic, and the input reads as it did. -/
theorem provedRawPlain : Rows.RawPlainSaid :=
  OpenClaim.holds_of_wide 3 Try.f3 rfl rfl rfl rfl rfl rfl rfl ⟨rfl, rfl, rfl, rfl, rfl⟩ rfl rfl rfl rfl rfl (by kernel_rfl) Try.func3 (by kernel_rfl)
    (of_decide_eq_true (by kernel_rfl)) (by unfold Func.isWrapper; first | (rw [if_pos (by decide +kernel)]; kernel_rfl) | (rw [if_neg (by decide +kernel)]; exact ⟨rfl, rfl⟩))
    (fun os started H enc _ => liftedRawPlain os started H enc)
end Go.Proofs.Ytpoahaadnbdgcaa
