/- Every input: the law ImageParses returns true, without a panic, and the input reads as it did. No condition beside the given ones. -/
import Derived.Test.YtggamdlpiejbiaaGreatRows
import Derived.Test.YtggamdlpiejbiaaGreatM28
namespace Go.Proofs.YtggamdlpiejbiaaGreat
open Go.ChangeShapes Go.WideShapes Go.ChangeAt Go.RowKit Go.Shelf

theorem ownImageParses : ownKnob Tryz.prog.godebug = none := by kernel_rfl
theorem XQ : laidOutB Tryz.prog = true := by kernel_rfl
set_option maxRecDepth 100000 in
theorem liftedImageParses (os : Os) (started : os.Started) (H : Type) (enc : TypeId × Value → H) :
    ReturnsInHanded {} Tryz.checked os 8 .any (Rows.imageParsesSpec.pre6 enc Tryz.prog Tryz.f8 Rows.imageParsesRow.domain false) (Rows.imageParsesSpec.post enc Tryz.prog Tryz.f8 false true false false) := by
  refine returnsInHanded_of_change (C := Tryz.checked) ownImageParses started (by kernel_rfl) Tryz.func8
    (ChangeSpec.witness6 (enc := enc) (C := Tryz.checked) false ⟨#[], #[.slice none 0 0, (.agg #[.int .i64 0, .int .i64 0, .int .i64 0]), (.agg #[.bool false, .int .i64 0, .int .i64 0, .int .i64 0, .slice none 0 0]), .int .i64 0, .int .i64 0, .int .u8 0], []⟩ 8 (by kernel_rfl) (by kernel_rfl) (by kernel_rfl) (by kernel_rfl)) ?_
  intro W base args ds gs before hval0 hW hcnd _
  have hval : ∀ (j : Nat) t v, Tryz.f8.params[j]? = some t → args[j]? = some v → Value.okWide Tryz.prog W .any base t v := hval0
  have hW' := hW
  obtain ⟨p, q, hA00, hV, rfl, hfz, hnd⟩ := hW
  have hA : DataW.TrodAll enc Tryz.prog W 0 (fun _ => true) true Tryz.f8.params.toList args.toList ds p := hA00
  rw [Tryz.params8] at hA hval
  obtain ⟨v0, vs0, d0, ds0, p0, q0, hargs, rfl, rfl, h0, r0⟩ := trodAll_cons hA
  obtain ⟨v1, vs1, d1, ds1, p1, q1, rfl, rfl, rfl, h1, r1⟩ := trodAll_cons r0
  obtain ⟨v2, vs2, d2, ds2, p2, q2, rfl, rfl, rfl, h2, r2⟩ := trodAll_cons r1
  obtain ⟨v3, vs3, d3, ds3, p3, q3, rfl, rfl, rfl, h3, r3⟩ := trodAll_cons r2
  obtain ⟨v4, vs4, d4, ds4, p4, q4, rfl, rfl, rfl, h4, r4⟩ := trodAll_cons r3
  obtain ⟨v5, vs5, d5, ds5, p5, q5, rfl, rfl, rfl, h5, r5⟩ := trodAll_cons r4
  obtain ⟨rfl, rfl, rfl⟩ := trodAll_nil r5
  obtain rfl : args = #[v0, v1, v2, v3, v4, v5] := by cases args; simp_all
  obtain ⟨rfl, rfl⟩ := trodVars_none hV
  have k0 := h0
  have lt0 : ∀ x ∈ p0, x.block < W.heap.size := by obtain ⟨m, hm⟩ := k0; exact DataW.trod_lt m _ _ _ hm
  have k1 := h1
  have lt1 : ∀ x ∈ p1, x.block < W.heap.size := by obtain ⟨m, hm⟩ := k1; exact DataW.trod_lt m _ _ _ hm
  have k2 := h2
  have lt2 : ∀ x ∈ p2, x.block < W.heap.size := by obtain ⟨m, hm⟩ := k2; exact DataW.trod_lt m _ _ _ hm
  have k3 := h3
  have lt3 : ∀ x ∈ p3, x.block < W.heap.size := by obtain ⟨m, hm⟩ := k3; exact DataW.trod_lt m _ _ _ hm
  have k4 := h4
  have lt4 : ∀ x ∈ p4, x.block < W.heap.size := by obtain ⟨m, hm⟩ := k4; exact DataW.trod_lt m _ _ _ hm
  have k5 := h5
  have lt5 : ∀ x ∈ p5, x.block < W.heap.size := by obtain ⟨m, hm⟩ := k5; exact DataW.trod_lt m _ _ _ hm
  obtain ⟨ab, len0, cb, rfl⟩ := okWide_slice Tryz.underlying22 (hval 0 22 v0 rfl rfl)
  obtain ⟨fuel0, hf0⟩ := h0
  obtain ⟨a_, n_, c_, bs, e0, hl0, hc0, hm0, hz0, hr0⟩ := open_nums Tryz.underlying22 Tryz.underlying5 (by kernel_rfl) hf0
  simp only [Value.cells, List.cons.injEq, Value.slice.injEq, and_true] at e0
  obtain ⟨rfl, rfl, rfl⟩ := e0
  subst hl0
  have b0 : ∀ x ∈ bs, _ := fun x hx => wf_u8 (hz0 x hx)
  have m0 : cb ≤ 9223372036854775807 := by unfold maxLen at hm0; omega
  have m0' : bs.length ≤ 9223372036854775807 := by omega
  obtain ⟨c10, c11, c12, y10, y11, y12, m1, rfl, rfl, rfl, hy10, hy11, hy12⟩ := Go.Joins.open_agg3 Tryz.underlying24 (by kernel_rfl) (by kernel_rfl) (hval 1 24 v1 rfl rfl) h1
  obtain ⟨la, e10, rfl, wh10⟩ := DataW.trod_int Tryz.underlying3 hy10
  simp at e10
  subst e10
  have b10 := Vq wh10
  obtain ⟨lb, e11, rfl, wh11⟩ := DataW.trod_int Tryz.underlying3 hy11
  simp at e11
  subst e11
  have b11 := Vq wh11
  obtain ⟨ld, e12, rfl, wh12⟩ := DataW.trod_int Tryz.underlying3 hy12
  simp at e12
  subst e12
  have b12 := Vq wh12
  obtain ⟨c2, rfl, hsz2⟩ := okWide_struct Tryz.underlying74 (hval 2 74 v2 rfl rfl)
  obtain ⟨fuel2, hf2⟩ := h2
  obtain ⟨g, e2, hg2⟩ := open_G hf2
  simp only [Value.cells] at e2
  obtain rfl : c2 = _ := Array.toList_inj.1 (e2.trans (List.toList_toArray).symm)
  obtain ⟨kd, rfl, rfl, rfl, w3⟩ := open_int Tryz.underlying3 (hval 3 3 v3 rfl rfl) h3
  have b3 := Vq w3
  obtain ⟨at_, rfl, rfl, rfl, w4⟩ := open_int Tryz.underlying3 (hval 4 3 v4 rfl rfl) h4
  have b4 := Vq w4
  obtain ⟨cc, rfl, rfl, rfl, w5⟩ := open_int Tryz.underlying5 (hval 5 5 v5 rfl rfl) h5
  have b5 := wf_u8 w5
  clear hA00 hval0
  refine (Fn.belowW W (lParses_spec (oldW W) ab cb bs hr0 (fun x hx => by have q := b0 x hx; omega) hc0 m0' la lb ld g hg2.1 hg2.2.1 hg2.2.2.1 hg2.2.2.2.1 hg2.2.2.2.2.1 hg2.2.2.2.2.2 kd at_ cc b3 b4 (by omega))).mono fun e W' ⟨he, bel⟩ => ?_
  subst he
  exact ⟨_, rfl, _, _, _, [], _, [], hW', trodAll_mk1 (shut_bool Tryz.underlying4 _), (trodAll_cons_mk (Below.trod XQ (by kernel_rfl) (of_decide_eq_true (by kernel_rfl)) k0 bel lt0) (trodAll_cons_mk (Below.trod XQ (by kernel_rfl) (of_decide_eq_true (by kernel_rfl)) k1 bel lt1) (trodAll_cons_mk (Below.trod XQ (by kernel_rfl) (of_decide_eq_true (by kernel_rfl)) k2 bel lt2) (trodAll_cons_mk (Below.trod XQ (by kernel_rfl) (of_decide_eq_true (by kernel_rfl)) k3 bel lt3) (trodAll_cons_mk (Below.trod XQ (by kernel_rfl) (of_decide_eq_true (by kernel_rfl)) k4 bel lt4) (trodAll_cons_mk (Below.trod XQ (by kernel_rfl) (of_decide_eq_true (by kernel_rfl)) k5 bel lt5) trodAll_mk0)))))), rfl, bel.frame _, fun h => by cases h⟩
/-- Every input: the law chequerlaw10.ImageParses returns true, without a panic, and the input reads as it did. -/
theorem provedImageParses : Rows.ImageParsesSaid :=
  OpenClaim.holds_of_wide 8 Tryz.f8 rfl rfl rfl rfl rfl rfl rfl ⟨rfl, rfl, rfl, rfl, rfl⟩ rfl rfl rfl rfl rfl (by kernel_rfl) Tryz.func8 (by kernel_rfl)
    (of_decide_eq_true (by kernel_rfl)) (by unfold Func.isWrapper; (rw [if_neg (by decide +kernel)]; exact ⟨rfl, rfl⟩))
    (fun os started H enc _ => liftedImageParses os started H enc)
end Go.Proofs.YtggamdlpiejbiaaGreat
