/- Every text and every head: the law chequerlaw08.PlainSteps returns true, without a panic, and the input reads as it did. -/
import Derived.Test.YtoiecgmnnjipfaaRows
import Derived.Test.YtoiecgmnnjipfaaRow
import Derived.Test.YtoiecgmnnjipfaaLw2
namespace Go.Proofs.Ytoiecgmnnjipfaa
open Go.ChangeShapes Go.WideShapes Go.ChangeAt Go.RowKit

theorem ownPlainSteps : ownKnob Try.prog.godebug = none := by kernel_rfl
theorem laidOutPlainSteps : laidOutB Try.prog = true := by kernel_rfl
set_option maxRecDepth 100000 in
theorem liftedPlainSteps (os : Os) (started : os.Started) (H : Type) (enc : TypeId × Value → H) :
    ReturnsInHanded {} Try.checked os 6 .any (Rows.plainStepsSpec.pre6 enc Try.prog Try.f6 Rows.plainStepsRow.domain false) (Rows.plainStepsSpec.post enc Try.prog Try.f6 false true false false) := by
  refine returnsInHanded_of_change (C := Try.checked) ownPlainSteps started (by kernel_rfl) Try.func6
    (ChangeSpec.witness6 (enc := enc) (C := Try.checked) false ⟨#[], #[.string ⟨#[]⟩, .agg #[.int .i64 0, .int .i64 0, .int .i64 0, .int .i64 0]], []⟩ 8 (by kernel_rfl) (by kernel_rfl) (by kernel_rfl) (by kernel_rfl)) ?_
  intro W base args ds gs before hval0 hW hcnd _
  have hval : ∀ (j : Nat) t v, Try.f6.params[j]? = some t → args[j]? = some v → Value.okWide Try.prog W .any base t v := hval0
  have hW' := hW
  obtain ⟨p, q, hA0, hV, rfl, hfz, hnd⟩ := hW
  have hA : DataW.TrodAll enc Try.prog W 0 (fun _ => true) true Try.f6.params.toList args.toList ds p := hA0
  rw [Try.params6] at hA hval
  obtain ⟨v0, vs0, d0, ds0, p0, q0, hargs, rfl, rfl, h0, r0⟩ := trodAll_cons hA
  obtain ⟨v1, vs1, d1, ds1, p1, q1, rfl, rfl, rfl, h1, r1⟩ := trodAll_cons r0
  obtain ⟨rfl, rfl, rfl⟩ := trodAll_nil r1
  obtain rfl : args = #[v0, v1] := by cases args; simp_all
  obtain ⟨rfl, rfl⟩ := trodVars_none hV
  have k0 := h0
  have lt0 : ∀ x ∈ p0, x.block < W.heap.size := by obtain ⟨m, hm⟩ := k0; exact DataW.trod_lt m _ _ _ hm
  obtain ⟨s, rfl, rfl, rfl, w0⟩ := Go.ChangeMaps.open_string Try.underlying9 (hval 0 9 v0 rfl rfl) h0
  have k1 := h1
  have lt1 : ∀ x ∈ p1, x.block < W.heap.size := by obtain ⟨m, hm⟩ := k1; exact DataW.trod_lt m _ _ _ hm
  obtain ⟨c0, c1, c2, c3, y0, y1, y2, y3, m, rfl, rfl, rfl, hy0, hy1, hy2, hy3⟩ := Go.Joins.open_agg4 Try.underlying23 (by kernel_rfl) (by kernel_rfl) (hval 1 23 v1 rfl rfl) h1
  obtain ⟨K, e0, rfl, wh0⟩ := DataW.trod_int Try.underlying3 hy0
  simp at e0
  subst e0
  have bh0 := wf_i64 wh0
  obtain ⟨W0, e1, rfl, wh1⟩ := DataW.trod_int Try.underlying3 hy1
  simp at e1
  subst e1
  have bh1 := wf_i64 wh1
  obtain ⟨H0, e2, rfl, wh2⟩ := DataW.trod_int Try.underlying3 hy2
  simp at e2
  subst e2
  have bh2 := wf_i64 wh2
  obtain ⟨M, e3, rfl, wh3⟩ := DataW.trod_int Try.underlying3 hy3
  simp at e3
  subst e3
  have bh3 := wf_i64 wh3
  clear hA0 hval0
  refine (Fn.below (PlainSteps_spec s K W0 H0 M bh0.1 bh0.2 bh1.1 bh1.2 bh2.1 bh2.2 bh3.1 bh3.2) W).mono fun e W' ⟨he, bel⟩ => ?_
  subst he
  exact ⟨_, rfl, _, _, _, [], _, [], hW', trodAll_mk1 (shut_bool Try.underlying4 _), (trodAll_cons_mk (Below.trod laidOutPlainSteps (by kernel_rfl) (of_decide_eq_true (by kernel_rfl)) k0 bel lt0) (trodAll_cons_mk (Below.trod laidOutPlainSteps (by kernel_rfl) (of_decide_eq_true (by kernel_rfl)) k1 bel lt1) trodAll_mk0)), rfl, bel.frame _, fun h => by cases h⟩
/-- Every text and every head: the law chequerlaw08.PlainSteps returns true, without a panic, and the input reads as it did. -/
theorem provedPlainSteps : Rows.PlainStepsSaid :=
  OpenClaim.holds_of_wide 6 Try.f6 rfl rfl rfl rfl rfl rfl rfl ⟨rfl, rfl, rfl, rfl, rfl⟩ rfl rfl rfl rfl rfl (by kernel_rfl) Try.func6 (by kernel_rfl)
    (of_decide_eq_true (by kernel_rfl)) (by unfold Func.isWrapper; first | (rw [if_pos (by decide +kernel)]; kernel_rfl) | (rw [if_neg (by decide +kernel)]; exact ⟨rfl, rfl⟩))
    (fun os started H enc _ => liftedPlainSteps os started H enc)
end Go.Proofs.Ytoiecgmnnjipfaa
