/- Every head: the law chequerlaw08.PlainNew returns true, without a panic, and the input reads as it did. -/
import Derived.Test.YtoiecgmnnjipfaaRows
import Derived.Test.YtoiecgmnnjipfaaRow
import Derived.Test.YtoiecgmnnjipfaaLw2
namespace Go.Proofs.Ytoiecgmnnjipfaa
open Go.ChangeShapes Go.WideShapes Go.ChangeAt Go.RowKit

theorem ownPlainNew : ownKnob Try.prog.godebug = none := by kernel_rfl
theorem laidOutPlainNew : laidOutB Try.prog = true := by kernel_rfl
set_option maxRecDepth 100000 in
theorem liftedPlainNew (os : Os) (started : os.Started) (H : Type) (enc : TypeId × Value → H) :
    ReturnsInHanded {} Try.checked os 4 .any (Rows.plainNewSpec.pre6 enc Try.prog Try.f4 Rows.plainNewRow.domain false) (Rows.plainNewSpec.post enc Try.prog Try.f4 false true false false) := by
  refine returnsInHanded_of_change (C := Try.checked) ownPlainNew started (by kernel_rfl) Try.func4
    (ChangeSpec.witness6 (enc := enc) (C := Try.checked) false ⟨#[], #[.agg #[.int .i64 0, .int .i64 0, .int .i64 0, .int .i64 0]], []⟩ 8 (by kernel_rfl) (by kernel_rfl) (by kernel_rfl) (by kernel_rfl)) ?_
  intro W base args ds gs before hval0 hW hcnd _
  have hval : ∀ (j : Nat) t v, Try.f4.params[j]? = some t → args[j]? = some v → Value.okWide Try.prog W .any base t v := hval0
  have hW' := hW
  obtain ⟨p, q, hA0, hV, rfl, hfz, hnd⟩ := hW
  have hA : DataW.TrodAll enc Try.prog W 0 (fun _ => true) true Try.f4.params.toList args.toList ds p := hA0
  rw [Try.params4] at hA hval
  obtain ⟨v0, vs0, d0, ds0, p0, q0, hargs, rfl, rfl, h0, r0⟩ := trodAll_cons hA
  obtain ⟨rfl, rfl, rfl⟩ := trodAll_nil r0
  obtain rfl : args = #[v0] := by cases args; simp_all
  obtain ⟨rfl, rfl⟩ := trodVars_none hV
  have k0 := h0
  have lt0 : ∀ x ∈ p0, x.block < W.heap.size := by obtain ⟨m, hm⟩ := k0; exact DataW.trod_lt m _ _ _ hm
  obtain ⟨c0, c1, c2, c3, y0, y1, y2, y3, m, rfl, rfl, rfl, hy0, hy1, hy2, hy3⟩ := Go.Joins.open_agg4 Try.underlying23 (by kernel_rfl) (by kernel_rfl) (hval 0 23 v0 rfl rfl) h0
  obtain ⟨K, e0, rfl, wh0⟩ := DataW.trod_int Try.underlying3 hy0
  simp at e0
  subst e0
  have bh0 := wf_i64 wh0
  obtain ⟨W0, e1, rfl, wh1⟩ := DataW.trod_int Try.underlying3 hy1
  simp at e1
  subst e1
  have bh1 := wf_i64 wh1
  obtain ⟨H0, e2, rfl, wh2⟩ := DataW.trod_int Try.underlying3 hy2
  simp at e2
  subst e2
  have bh2 := wf_i64 wh2
  obtain ⟨M, e3, rfl, wh3⟩ := DataW.trod_int Try.underlying3 hy3
  simp at e3
  subst e3
  have bh3 := wf_i64 wh3
  clear hA0 hval0
  refine (Fn.below (PlainNew_spec K W0 H0 M bh0.1 bh0.2 bh1.1 bh1.2 bh2.1 bh2.2 bh3.1 bh3.2) W).mono fun e W' ⟨he, bel⟩ => ?_
  subst he
  exact ⟨_, rfl, _, _, _, [], _, [], hW', trodAll_mk1 (shut_bool Try.underlying4 _), (trodAll_cons_mk (Below.trod laidOutPlainNew (by kernel_rfl) (of_decide_eq_true (by kernel_rfl)) k0 bel lt0) trodAll_mk0), rfl, bel.frame _, fun h => by cases h⟩
/-- Every head: the law chequerlaw08.PlainNew returns true, without a panic, and the input reads as it did. -/
theorem provedPlainNew : Rows.PlainNewSaid :=
  OpenClaim.holds_of_wide 4 Try.f4 rfl rfl rfl rfl rfl rfl rfl ⟨rfl, rfl, rfl, rfl, rfl⟩ rfl rfl rfl rfl rfl (by kernel_rfl) Try.func4 (by kernel_rfl)
    (of_decide_eq_true (by kernel_rfl)) (by unfold Func.isWrapper; first | (rw [if_pos (by decide +kernel)]; kernel_rfl) | (rw [if_neg (by decide +kernel)]; exact ⟨rfl, rfl⟩))
    (fun os started H enc _ => liftedPlainNew os started H enc)
end Go.Proofs.Ytoiecgmnnjipfaa
