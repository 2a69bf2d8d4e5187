/- Every input: the law ImageTurns returns true, without a panic, and the input reads as it did. No condition beside the given ones. -/
import Derived.Test.YtggamdlpiejbiaaGreatRows
import Derived.Test.YtggamdlpiejbiaaGreatM23
namespace Go.Proofs.YtggamdlpiejbiaaGreat
open Go.ChangeShapes Go.WideShapes Go.ChangeAt Go.RowKit Go.Shelf

theorem ownImageTurns : ownKnob Tryz.prog.godebug = none := by kernel_rfl
theorem Ze : laidOutB Tryz.prog = true := by kernel_rfl
set_option maxRecDepth 100000 in
theorem liftedImageTurns (os : Os) (started : os.Started) (H : Type) (enc : TypeId × Value → H) :
    ReturnsInHanded {} Tryz.checked os 13 .any (Rows.imageTurnsSpec.pre6 enc Tryz.prog Tryz.f13 Rows.imageTurnsRow.domain false) (Rows.imageTurnsSpec.post enc Tryz.prog Tryz.f13 false true false false) := by
  refine returnsInHanded_of_change (C := Tryz.checked) ownImageTurns started (by kernel_rfl) Tryz.func13
    (ChangeSpec.witness6 (enc := enc) (C := Tryz.checked) false ⟨#[], #[(.agg #[.bool false, .int .i64 0, .int .i64 0, .int .i64 0, .slice none 0 0]), (.agg #[.bool false, .int .i64 0, .int .i64 0, .int .i64 0, .slice none 0 0])], []⟩ 8 (by kernel_rfl) (by kernel_rfl) (by kernel_rfl) (by kernel_rfl)) ?_
  intro W base args ds gs before hval0 hW hcnd _
  have hval : ∀ (j : Nat) t v, Tryz.f13.params[j]? = some t → args[j]? = some v → Value.okWide Tryz.prog W .any base t v := hval0
  have hW' := hW
  obtain ⟨p, q, hA00, hV, rfl, hfz, hnd⟩ := hW
  have hA : DataW.TrodAll enc Tryz.prog W 0 (fun _ => true) true Tryz.f13.params.toList args.toList ds p := hA00
  rw [Tryz.params13] at hA hval
  obtain ⟨v0, vs0, d0, ds0, p0, q0, hargs, rfl, rfl, h0, r0⟩ := trodAll_cons hA
  obtain ⟨v1, vs1, d1, ds1, p1, q1, rfl, rfl, rfl, h1, r1⟩ := trodAll_cons r0
  obtain ⟨rfl, rfl, rfl⟩ := trodAll_nil r1
  obtain rfl : args = #[v0, v1] := by cases args; simp_all
  obtain ⟨rfl, rfl⟩ := trodVars_none hV
  have k0 := h0
  have lt0 : ∀ x ∈ p0, x.block < W.heap.size := by obtain ⟨m, hm⟩ := k0; exact DataW.trod_lt m _ _ _ hm
  have k1 := h1
  have lt1 : ∀ x ∈ p1, x.block < W.heap.size := by obtain ⟨m, hm⟩ := k1; exact DataW.trod_lt m _ _ _ hm
  obtain ⟨c0, rfl, hsz0⟩ := okWide_struct Tryz.underlying74 (hval 0 74 v0 rfl rfl)
  obtain ⟨fuel0, hf0⟩ := h0
  obtain ⟨g, e0, hg0⟩ := open_G hf0
  simp only [Value.cells] at e0
  obtain rfl : c0 = _ := Array.toList_inj.1 (e0.trans (List.toList_toArray).symm)
  obtain ⟨c1, rfl, hsz1⟩ := okWide_struct Tryz.underlying74 (hval 1 74 v1 rfl rfl)
  obtain ⟨fuel1, hf1⟩ := h1
  obtain ⟨gb, e1, hg1⟩ := open_G hf1
  simp only [Value.cells] at e1
  obtain rfl : c1 = _ := Array.toList_inj.1 (e1.trans (List.toList_toArray).symm)
  clear hA00 hval0
  refine (Fn.belowW W (lTurns_spec (oldW W) g hg0.1 hg0.2.1 hg0.2.2.1 hg0.2.2.2.1 hg0.2.2.2.2.1 hg0.2.2.2.2.2 gb hg1.1 hg1.2.1 hg1.2.2.1 hg1.2.2.2.1 hg1.2.2.2.2.1 hg1.2.2.2.2.2)).mono fun e W' ⟨he, bel⟩ => ?_
  subst he
  exact ⟨_, rfl, _, _, _, [], _, [], hW', trodAll_mk1 (shut_bool Tryz.underlying4 _), (trodAll_cons_mk (Below.trod Ze (by kernel_rfl) (of_decide_eq_true (by kernel_rfl)) k0 bel lt0) (trodAll_cons_mk (Below.trod Ze (by kernel_rfl) (of_decide_eq_true (by kernel_rfl)) k1 bel lt1) trodAll_mk0)), rfl, bel.frame _, fun h => by cases h⟩
/-- Every input: the law chequerlaw10.ImageTurns returns true, without a panic, and the input reads as it did. -/
theorem provedImageTurns : Rows.ImageTurnsSaid :=
  OpenClaim.holds_of_wide 13 Tryz.f13 rfl rfl rfl rfl rfl rfl rfl ⟨rfl, rfl, rfl, rfl, rfl⟩ rfl rfl rfl rfl rfl (by kernel_rfl) Tryz.func13 (by kernel_rfl)
    (of_decide_eq_true (by kernel_rfl)) (by unfold Func.isWrapper; (rw [if_neg (by decide +kernel)]; exact ⟨rfl, rfl⟩))
    (fun os started H enc _ => liftedImageTurns os started H enc)
end Go.Proofs.YtggamdlpiejbiaaGreat
