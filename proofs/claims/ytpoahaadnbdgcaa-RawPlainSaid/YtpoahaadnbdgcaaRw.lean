/- Walks. -/
import Derived.Test.YtpoahaadnbdgcaaChk
namespace Go.Proofs.Ytpoahaadnbdgcaa
open Go.RowKit Go.Shelf


def RawH (K W H M : Int) : Prop := MayH K W H M ∧ 4 ≤ K
theorem RawH.bd {K W H M : Int} (h : RawH K W H M) : (4 ≤ K ∧ K ≤ 6) ∧ (1 ≤ W ∧ W ≤ 4096) ∧ (1 ≤ H ∧ H ≤ 65536) ∧ (1 ≤ M ∧ M ≤ 65535) ∧ (K = 4 → M = 1) := by
  obtain ⟨h1, h2⟩ := h
  unfold MayH at h1
  omega
theorem chK_13 (K : Int) : chK K = 1 ∨ chK K = 3 := by unfold chK; split <;> simp
theorem strd_bd {K : Int} {W w : Nat} (hw : w = 1 ∨ w = 2) (h1 : 1 ≤ W) (h2 : W ≤ 4096) : 1 ≤ strd K W w ∧ strd K W w ≤ 24576 := by
  have hch := chK_13 K
  unfold strd
  split
  · omega
  · rcases hch with e | e <;> rw [e] <;> rcases hw with rfl | rfl <;> simp <;> omega
theorem strd_int {K : Int} {W w : Nat} (h : K ≠ 4) : ((strd K W w : Nat) : Int) = (W : Int) * chK K * (w : Int) := by
  have hch := chK_13 K
  unfold strd
  rw [if_neg h]
  push_cast
  rw [Int.toNat_of_nonneg (by omega)]

theorem wide_spec (K W H M : Int) : Fn Try.prog 23 #[.agg #[.int .i64 K, .int .i64 W, .int .i64 H, .int .i64 M]] [] (fun v l => v = .int .i64 ((wideM M : Nat) : Int) ∧ l = []) := by
  refine Fn.intro (vs := [.agg #[.int .i64 K, .int .i64 W, .int .i64 H, .int .i64 M]]) Try.func23 rfl Try.ntmps23 rfl ?_
  refine Wp.seq ?_
  refine Wp.region ?_
  refine s_box rfl rfl rfl ?_
  intro g1
  refine s_as rfl rfl ?_
  refine WpL.nil ?_
  refine Wp.seq ?_
  refine Wp.seq ?_
  refine Wp.region ?_
  refine s_fa (o2 := 3) rfl rfl rfl ?_
  refine s_ld rfl rfl (by rfl) ?_
  refine s_gt rfl rfl rfl ?_
  refine WpL.nil ?_
  refine Wp.condD rfl (fun h0 => ?_) (fun h0 => ?_)
  · refine Wp.seq ?_
    refine Wp.region ?_
    refine s_as rfl rfl ?_
    refine WpL.nil ?_
    refine Wp.ret ?_
    apply RetQ.mk
    · exact (Res.one rfl rfl)
    · exact ⟨by unfold wideM; first | (rw [if_pos (by omega)]; rfl) | (rw [if_neg (by omega)]; rfl), rfl⟩
    · first | exact Ent.refl _ | exact Ent.nil _ | exact Take.ent' (by repeat' constructor) | (repeat (first | exact Ent.refl _ | refine Ent.drop ?_))
  · refine Wp.skip ?_
    refine Wp.seq ?_
    refine Wp.region ?_
    refine s_as rfl rfl ?_
    refine WpL.nil ?_
    refine Wp.ret ?_
    apply RetQ.mk
    · exact (Res.one rfl rfl)
    · exact ⟨by unfold wideM; first | (rw [if_pos (by omega)]; rfl) | (rw [if_neg (by omega)]; rfl), rfl⟩
    · first | exact Ent.refl _ | exact Ent.nil _ | exact Take.ent' (by repeat' constructor) | (repeat (first | exact Ent.refl _ | refine Ent.drop ?_))

theorem Stride_spec (K : Int) (W : Nat) (H M : Int) (hR : RawH K (W : Int) H M) : Fn Try.prog 24 #[.agg #[.int .i64 K, .int .i64 (W : Int), .int .i64 H, .int .i64 M]] [] (fun v l => v = .int .i64 ((strd K W (wideM M) : Nat) : Int) ∧ l = []) := by
  have hb := hR.bd
  have hch := chK_13 K
  have hw := wideM_or M
  have hm1 : 0 ≤ (W : Int) * chK K ∧ (W : Int) * chK K ≤ 12288 := by rcases hch with e | e <;> rw [e] <;> omega
  have hm2 : 0 ≤ (W : Int) * chK K * ((wideM M : Nat) : Int) ∧ (W : Int) * chK K * ((wideM M : Nat) : Int) ≤ 24576 := by rcases hw with e | e <;> rw [e] <;> omega
  refine Fn.intro (vs := [.agg #[.int .i64 K, .int .i64 (W : Int), .int .i64 H, .int .i64 M]]) Try.func24 rfl Try.ntmps24 rfl ?_
  refine Wp.seq ?_
  refine Wp.region ?_
  refine s_box rfl rfl rfl ?_
  intro g1
  refine s_as rfl rfl ?_
  refine WpL.nil ?_
  refine Wp.seq ?_
  refine Wp.block ?_
  refine Wp.seq ?_
  refine Wp.region ?_
  refine s_lda (vs := [_, _, _, _]) rfl rfl rfl (by rfl) ?_
  refine s_callf rfl rfl (by repeat' constructor) (Raw_spec _ _ _ _) ?_
  rintro _ _ ⟨rfl, rfl⟩
  simp only [napp]
  refine s_notD rfl rfl ?_
  refine s_as rfl rfl ?_
  refine WpL.nil ?_
  refine Wp.condDF rfl (fun hn => hn (by omega)) ?_
  refine Wp.seq ?_
  refine Wp.region ?_
  refine s_fa (o2 := 0) rfl rfl rfl ?_
  refine s_ld rfl rfl (by rfl) ?_
  refine s_eq rfl rfl rfl ?_
  refine s_as rfl rfl ?_
  refine WpL.nil ?_
  refine Wp.condD rfl (fun h1 => ?_) (fun h1 => ?_)
  · refine Wp.seq ?_
    refine Wp.region ?_
    refine s_fa (o2 := 1) rfl rfl rfl ?_
    refine s_ld rfl rfl (by rfl) ?_
    refine s_callf rfl rfl (by repeat' constructor) (Bytes_spec _ (by omega)) ?_
    rintro _ _ ⟨rfl, rfl⟩
    simp only [napp]
    refine s_as rfl rfl ?_
    refine WpL.nil ?_
    refine Wp.ret ?_
    apply RetQ.mk
    · exact (Res.one rfl rfl)
    · exact ⟨by rw [show strd K W (wideM M) = (W + 7) / 8 from if_pos h1]; rfl, rfl⟩
    · first | exact Ent.refl _ | exact Ent.nil _ | exact Take.ent' (by repeat' constructor) | (repeat (first | exact Ent.refl _ | refine Ent.drop ?_))
  · refine Wp.skip ?_
    refine Wp.seq ?_
    apply Wp.draw mixed [⟨14, _, []⟩, ⟨15, _, [0]⟩, ⟨16, _, []⟩, ⟨17, _, [2]⟩, ⟨18, _, [3]⟩, ⟨19, _, [1, 4]⟩, ⟨20, _, []⟩, ⟨21, _, [6, 3]⟩, ⟨22, _, [5, 7]⟩, ⟨2, _, [8, 7, 0, 1, 2, 3, 4, 5, 6]⟩] rfl
    · refine AllObs.mk ?_ ?_
      · refine s_fa (o2 := 1) rfl rfl rfl ?_
        exact obN rfl
      refine AllObs.mk ?_ ?_
      · refine s_ld rfl rfl (by rfl) ?_
        exact obN rfl
      refine AllObs.mk ?_ ?_
      · refine s_lda (vs := [_, _, _, _]) rfl rfl rfl (by rfl) ?_
        exact obN rfl
      refine AllObs.mk ?_ ?_
      · refine s_callf rfl rfl (by repeat' constructor) (Format_spec _ _ _ _ (by omega)) ?_
        rintro _ _ ⟨rfl, rfl⟩
        simp only [napp]
        rw [show (if K % 3 = 0 then (3 : Int) else 1) = chK K from rfl]
        exact WpL.nil ⟨rfl, rfl, rfl, by first | exact Ent.refl _ | exact Ent.nil _ | exact Take.ent' (by repeat' constructor) | (repeat (first | exact Ent.refl _ | refine Ent.drop ?_))⟩
      refine AllObs.mk ?_ ?_
      · refine s_fv rfl rfl rfl ?_
        exact obN rfl
      refine AllObs.mk ?_ ?_
      · refine s_mul rfl rfl rfl (w_i64 (by omega) (by omega)) ?_
        exact obN rfl
      refine AllObs.mk ?_ ?_
      · refine s_lda (vs := [_, _, _, _]) rfl rfl rfl (by rfl) ?_
        exact obN rfl
      refine AllObs.mk ?_ ?_
      · refine s_callf rfl rfl (by repeat' constructor) (wide_spec _ _ _ _) ?_
        rintro _ _ ⟨rfl, rfl⟩
        simp only [napp]
        exact WpL.nil ⟨rfl, rfl, rfl, by first | exact Ent.refl _ | exact Ent.nil _ | exact Take.ent' (by repeat' constructor) | (repeat (first | exact Ent.refl _ | refine Ent.drop ?_))⟩
      refine AllObs.mk ?_ ?_
      · refine s_mul rfl rfl rfl (w_i64 (by omega) (by omega)) ?_
        exact obN rfl
      refine AllObs.mk ?_ ?_
      · refine s_as rfl rfl ?_
        exact obN rfl
      exact AllObs.nil
    · refine Wp.ret ?_
      apply RetQ.mk
      · exact (Res.one rfl rfl)
      · exact ⟨by rw [strd_int h1], rfl⟩
      · first | exact Ent.refl _ | exact Ent.nil _ | exact Take.ent' (by repeat' constructor) | (repeat (first | exact Ent.refl _ | refine Ent.drop ?_))

end Go.Proofs.Ytpoahaadnbdgcaa
