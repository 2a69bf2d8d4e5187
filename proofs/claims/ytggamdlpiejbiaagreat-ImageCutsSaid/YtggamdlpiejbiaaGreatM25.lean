/- Walks and plain laws, a part of the proof of ImageCuts: every input that the law's guards let in, no condition beside. -/
import Derived.Test.YtggamdlpiejbiaaGreatM24
namespace Go.Proofs.YtggamdlpiejbiaaGreat
open Go.RowKit Go.Shelf


theorem rds_blk3 {g T : Nat} {a b c : Int} : RdsL [QK g [.int .i64 a, .int .i64 b, .int .i64 c] T] (some ⟨g, 0, none⟩) (Q5 [a, b, c]) := RdsL.blk rfl
theorem gx_good {C M z : Int} (hC : C = 1 ∨ C = 3) (hM : 1 ≤ M ∧ M ≤ 65535) : Can C M (Xp ((([Q3 z 3, Q3 z 3 / 2, 0] : List Int).take C.toNat).map (fun x => Q3 x (M + 1)))).1 ∧ 0 ≤ (Xp ((([Q3 z 3, Q3 z 3 / 2, 0] : List Int).take C.toNat).map (fun x => Q3 x (M + 1)))).1 ∧ (Xp ((([Q3 z 3, Q3 z 3 / 2, 0] : List Int).take C.toNat).map (fun x => Q3 x (M + 1)))).1 < 18446744073709551616 := by
  refine can_good hC hM ?_ fun x hx => ?_
  · rw [List.length_map, List.length_take]
    rcases hC with rfl | rfl <;> rfl
  · obtain ⟨y, _, rfl⟩ := List.mem_map.1 hx
    have := X6 (x := y) (m := M + 1) (by omega)
    omega

set_option maxHeartbeats 4000000 in
theorem rGood10_spec (A0 : HP) (three : Bool) (mx w h : Int) (ga : Option Addr) (gc : Nat) (zs : List Int) (hz : ∀ x ∈ zs, -9223372036854775808 ≤ x ∧ x < 9223372036854775808) (hzl : zs.length ≤ 9223372036854775807) (hA : RdsL [A0] ga (Q5 zs)) (hmx : -9223372036854775808 ≤ mx ∧ mx < 9223372036854775808) (hgw : -9223372036854775808 ≤ w ∧ w < 9223372036854775808) (hgh : -9223372036854775808 ≤ h ∧ h < 9223372036854775808) (most : Int) (hmo : 1 ≤ most ∧ most ≤ 100) : Fn Tryz.prog 35 #[.agg #[.bool three, .int .i64 mx, .int .i64 w, .int .i64 h, .slice ga zs.length gc], .int .i64 most] [A0] (fun v l => ∃ m a c, GoodI most m ∧ v = .agg #[.int .i64 m.c, .int .i64 m.m, .int .i64 m.w, .int .i64 m.h, .slice a m.px.length c] ∧ l = [QX 92 1 a c m.px.length (XQ m.px), A0]) := by
 have haw := X6 (x := w) (m := most) (by omega)
 have hah := X6 (x := h) (m := most) (by omega)
 have hWH : (1 + Q3 w most) * (1 + Q3 h most) ≤ 100 * 100 := Int.mul_le_mul (by omega) (by omega) (by omega) (by omega)
 have hWH0 : 0 ≤ (1 + Q3 w most) * (1 + Q3 h most) := Int.mul_nonneg (by omega) (by omega)
 have hz30 := X6 (x := 0) (m := 3) (by omega)
 refine Ql (vs := [.agg #[.bool three, .int .i64 mx, .int .i64 w, .int .i64 h, .slice ga zs.length gc], .int .i64 most]) Tryz.func35 rfl Tryz.ntmps35 rfl (Qb (Qa (Q2 rfl rfl rfl ?_)))
 intro gG
 refine XH rfl ?_
 intro gR
 refine WpL.nil (Qb (Qa ?_))
 refine Qw (vs := [_, _, _, _, _]) rfl rfl rfl (by rfl) ?_
 refine Qi rfl rfl (by repeat' constructor) (rForm_spec _ _ _ _ _ _ _ hmx hgw hgh) ?_
 rintro _ _ ⟨C, M, hC, hM, rfl, rfl⟩
 simp only [Qs]
 refine XH rfl ?_
 intro gF
 refine QC rfl rfl rfl (by rfl) rfl ?_
 refine WpL.nil (Qb ?_)
 apply YE (fB := []) mixed 11 [(11, true)] rfl rfl (by kernel_rfl)
 apply YZ [⟨0, 12, _, [], false⟩, ⟨1, 13, _, [0], false⟩, ⟨2, 14, _, [], false⟩, ⟨3, 15, _, [1, 2], false⟩, ⟨4, 16, _, [3], false⟩, ⟨5, 17, _, [], false⟩, ⟨6, 18, _, [5], false⟩, ⟨7, 19, _, [], false⟩, ⟨8, 20, _, [3, 6, 7], false⟩, ⟨9, 21, _, [8], false⟩, ⟨10, 22, _, [4, 9], false⟩] [] [0, 1, 2, 3, 4, 5, 6, 7, 8, 9, 10] [] (.inr rfl) rfl rfl rfl (by kernel_rfl) rfl rfl rfl rfl
 ·refine AllF.cons rfl rfl rfl rfl ?_ ?_
  ·exact Qk (o2 := 2) rfl rfl rfl (Qm rfl)
  refine AllF.cons rfl rfl rfl rfl ?_ ?_
  ·refine Qn rfl rfl (by rfl) ?_
   exact Qm rfl
  refine AllF.cons rfl rfl rfl rfl ?_ ?_
  ·exact Qc rfl rfl (Qm rfl)
  refine AllF.cons rfl rfl rfl rfl ?_ ?_
  ·refine Qi rfl rfl (by repeat' constructor) (Yb _ _ (by omega) (by omega) (by omega)) ?_
   rintro _ _ ⟨rfl, rfl⟩
   simp only [Qs]
   exact WpL.nil ⟨rfl, rfl, rfl, by exact Ent.refl _⟩
  refine AllF.cons rfl rfl rfl rfl ?_ ?_
  ·refine QA rfl rfl rfl (Qo (by omega) (by omega)) ?_
   exact Qm rfl
  refine AllF.cons rfl rfl rfl rfl ?_ ?_
  ·exact Qk (o2 := 3) rfl rfl rfl (Qm rfl)
  refine AllF.cons rfl rfl rfl rfl ?_ ?_
  ·refine Qn rfl rfl (by rfl) ?_
   exact Qm rfl
  refine AllF.cons rfl rfl rfl rfl ?_ ?_
  ·exact Qc rfl rfl (Qm rfl)
  refine AllF.cons rfl rfl rfl rfl ?_ ?_
  ·refine Qi rfl rfl (by repeat' constructor) (Yb _ _ (by omega) (by omega) (by omega)) ?_
   rintro _ _ ⟨rfl, rfl⟩
   simp only [Qs]
   exact WpL.nil ⟨rfl, rfl, rfl, by exact Ent.refl _⟩
  refine AllF.cons rfl rfl rfl rfl ?_ ?_
  ·refine QA rfl rfl rfl (Qo (by omega) (by omega)) ?_
   exact Qm rfl
  refine AllF.cons rfl rfl rfl rfl ?_ ?_
  ·refine Xu rfl rfl ?_
   exact Qm rfl
  exact AllF.nil
 ·intro gM
  refine QC rfl rfl rfl (by rfl) rfl ?_
  refine WpL.nil ⟨rfl, rfl, ?_⟩
  apply GoR.nil [] (.inr rfl) rfl rfl
  ·exact AllF.nil
  ·refine Xb (gr := [(0, _), (1, _), (2, _), (4, _), (5, _), (6, _)]) (FrLe.cons rfl (FrLe.cons rfl (FrLe.cons rfl (FrLe.cons rfl (FrLe.cons rfl (FrLe.cons rfl FrLe.nil)))))) ?_
   refine Qb (Qb (Qa (Qd rfl rfl (WpL.nil (Wp.block ?_)))))
   refine Wp.loopD (σ := GdX) (fun x => (x.k : Int) ≤ (1 + Q3 w most) * (1 + Q3 h most) ∧ x.out.length = x.k ∧ ∀ p ∈ x.out, Can C M p ∧ 0 ≤ p ∧ p < 18446744073709551616) [7, 8, 9, 23, 24, 25, 26, 27, 28, 29, 30, 31, 32, 33, 34, 35, 36, 37, 38, 39, 40, 41, 42, 43, 44, 45, 46, 47, 48, 49, 50, 51, 52, 53, 54, 55, 56, 57] (fun x => [(7, .int .i64 (x.k : Int))]) (fun x => [QX 92 1 x.a x.c x.out.length (XQ x.out), QK gM [.int .i64 (1 + Q3 w most), .int .i64 (1 + Q3 h most), .slice x.a x.out.length x.c] 69, QK gF [.int .i64 C, .int .i64 M] 48, QK gR [.int .i64 0, .int .i64 0, .int .i64 0, .int .i64 0, .slice none 0 0] 71, QK gG [.bool three, .int .i64 mx, .int .i64 w, .int .i64 h, .slice ga zs.length gc] 74, A0]) (fun x => ((1 + Q3 w most) * (1 + Q3 h most)).toNat - x.k) ⟨0, [], none, 0⟩ ?_ (by repeat (first | exact FrLe.nil | refine FrLe.cons rfl ?_)) ?_ ?_
   ·exact ⟨by simpa using hWH0, rfl, by simp⟩
   ·exact Ent.own_nil (Ent.refl _)
   ·rintro ⟨k, out, a, c⟩ ⟨hk, hol, hcan⟩
    dsimp only at hk hol hcan ⊢
    refine Qb (Qb (Qa (Qc rfl rfl (Qk (o2 := 0) rfl rfl rfl (Qn rfl rfl (by rfl) ?_)))))
    refine Qk (o2 := 1) rfl rfl rfl (Qn rfl rfl (by rfl) ?_)
    refine Xv rfl rfl rfl (Qo (by omega) (by omega)) ?_
    refine Q8 rfl rfl rfl (WpL.nil (Qj rfl (fun h1 => ?_) (fun h1 => ?_)))
    ·refine Wp.skip (Qb (Wp.block ?_))
     refine Qb (Qa (Qd rfl rfl (WpL.nil (Qb (Qb (Qa (Qk (o2 := 4) rfl rfl rfl (Qn rfl rfl (by rfl) ?_))))))))
     refine QO rfl rfl (XU rfl rfl rfl (WpL.nil (Qj rfl (fun h2 => ?_) (fun h2 => ?_))))
     ·have hix0 := Int.emod_nonneg (k : Int) (show (zs.length : Int) ≠ 0 by omega)
      have hix1 := Int.emod_lt_of_pos (k : Int) (show (0 : Int) < zs.length by omega)
      have hix : ((k : Int) % zs.length).toNat < zs.length := by omega
      have hzi := hz _ (List.getElem_mem hix)
      have hz3 := X6 (x := zs[((k : Int) % zs.length).toNat]) (m := 3) (by omega)
      apply Q9 mixed [⟨36, _, []⟩, ⟨37, _, [0]⟩, ⟨38, _, []⟩, ⟨39, _, []⟩, ⟨40, _, [3]⟩, ⟨41, _, [4]⟩, ⟨42, _, [2, 5]⟩, ⟨43, _, [1, 6]⟩, ⟨44, _, [7]⟩, ⟨8, _, [8, 0, 1, 2, 3, 4, 5, 6, 7]⟩] rfl
      ·refine AllObs.mk ?_ ?_
       ·exact Qk (o2 := 4) rfl rfl rfl (Qm rfl)
       refine AllObs.mk ?_ ?_
       ·refine Qn rfl rfl (by rfl) ?_
        exact Qm rfl
       refine AllObs.mk ?_ ?_
       ·exact Qc rfl rfl (Qm rfl)
       refine AllObs.mk ?_ ?_
       ·exact Qk (o2 := 4) rfl rfl rfl (Qm rfl)
       refine AllObs.mk ?_ ?_
       ·refine Qn rfl rfl (by rfl) ?_
        exact Qm rfl
       refine AllObs.mk ?_ ?_
       ·exact QO rfl rfl (WpL.nil ⟨rfl, rfl, rfl, by exact Ent.refl _⟩)
       refine AllObs.mk ?_ ?_
       ·refine YD rfl rfl rfl (by omega) (by omega) ?_
        exact Qm rfl
       refine AllObs.mk ?_ ?_
       ·refine Xg ((k : Int) % zs.length).toNat rfl rfl rfl hA (by exact Take.ent' (by repeat' constructor)) (by omega) hix (by rw [Xf]; exact hix) ?_
        exact Qm rfl
       refine AllObs.mk ?_ ?_
       ·refine Xk rfl rfl hA (by exact Take.ent' (by repeat' constructor)) (XA zs hix) ?_
        exact Qm rfl
       refine AllObs.mk ?_ ?_
       ·exact Qd rfl rfl (Qm rfl)
       exact AllObs.nil
      ·refine Qb (Qa (Qc rfl rfl (Qi rfl rfl (by repeat' constructor) (Yb _ _ (by omega) (by omega) (by omega)) ?_)))
       rintro _ _ ⟨rfl, rfl⟩
       simp only [Qs]
       refine Qd rfl rfl (WpL.nil (Xb (gr := [(0, _), (1, _), (2, _), (4, _), (5, _), (6, _), (7, _), (9, _)]) (FrLe.cons rfl (FrLe.cons rfl (FrLe.cons rfl (FrLe.cons rfl (FrLe.cons rfl (FrLe.cons rfl (FrLe.cons rfl (FrLe.cons rfl FrLe.nil)))))))) ?_))
       apply Yy (fB := [QK gM [.int .i64 (1 + Q3 w most), .int .i64 (1 + Q3 h most), .slice a out.length c] 69, QK gF [.int .i64 C, .int .i64 M] 48]) [0, 1, 2, 3, 4, 6, 5, 7, 8, 9, 10, 11] [47, 48, 49, 50, 51, 53, 52, 54, 55, 56, 57] 12 mixed (by kernel_rfl) [(6, false), (1, false), (0, false), (1, false)] (by kernel_rfl) (by kernel_rfl) (by kernel_rfl)
       apply Xs [⟨0, 47, _, [], true⟩, ⟨1, 48, _, [0], true⟩, ⟨2, 49, _, [], false⟩, ⟨3, 50, _, [], false⟩, ⟨4, 51, _, [3], false⟩, ⟨5, 53, _, [], true⟩] [] [2, 3, 4] [54, 55, 56, 57] [54, 55, 56, 57, 47, 48, 53] (.inl ⟨_, by repeat' constructor⟩) rfl rfl rfl (by kernel_rfl) rfl (by kernel_rfl) rfl rfl
       ·refine QF 0 [] rfl rfl rfl rfl (by kernel_rfl) rfl ?_ ?_
        ·exact Qk (o2 := 2) rfl rfl rfl (Qm rfl)
        refine QF 1 [0] rfl rfl rfl rfl (by kernel_rfl) rfl ?_ ?_
        ·refine Qn rfl rfl (by rfl) ?_
         exact Qm rfl
        refine Qu 2 [] rfl rfl rfl rfl (by kernel_rfl) rfl ?_ ?_
        ·exact Qc rfl rfl (Qm rfl)
        refine Qu 3 [] rfl rfl rfl rfl (by kernel_rfl) rfl ?_ ?_
        ·exact Qc rfl rfl (Qm rfl)
        refine Qu 4 [3] rfl rfl rfl rfl (by kernel_rfl) rfl ?_ ?_
        ·refine YR rfl rfl rfl (by omega) (by omega) (Qo (by omega) (by omega)) ?_
         exact Qm rfl
        refine QF 5 [] rfl rfl rfl rfl (by kernel_rfl) rfl ?_ ?_
        ·refine Qw (vs := [_, _]) rfl rfl rfl (by rfl) ?_
         exact Qm rfl
        exact AllF.nil
       ·refine s_bs3 rfl rfl rfl rfl rfl rfl rfl rfl ?_
        intro g5
        refine WpL.nil ⟨rfl, rfl, ?_⟩
        apply Xs [⟨7, 54, _, [5, 6], false⟩] [0, 1, 5] [5, 7] [56, 57] [56, 57, 47, 48] (.inl ⟨_, by repeat' constructor⟩) rfl rfl rfl (by kernel_rfl) rfl (by kernel_rfl) rfl rfl
        ·refine Qu 7 [5, 6] rfl rfl rfl rfl (by kernel_rfl) rfl ?_ ?_
         ·refine Qi rfl rfl (by repeat' constructor) (GoodPx3_spec [_] _ _ [_, _, 0] C M rds_blk3 (by simp only [List.mem_cons, List.not_mem_nil, or_false]; rintro x (rfl | rfl | rfl) <;> omega) (by simp only [List.length_cons, List.length_nil]; omega) hC hM.1 hM.2) ?_
          rintro _ _ ⟨rfl, rfl⟩
          simp only [Qs]
          exact WpL.nil ⟨rfl, rfl, rfl, by exact Ent.refl _⟩
         exact AllF.nil
        ·refine X4 rfl rfl rfl rfl ?_
         intro g6
         refine WpL.nil ⟨rfl, rfl, ?_⟩
         apply Xs [] [0, 1] [0, 1] [57] [57] (.inl ⟨_, by repeat' constructor⟩) rfl rfl rfl (by kernel_rfl) rfl (by kernel_rfl) rfl rfl
         ·exact AllF.nil
         ·(refine XN rfl rfl rfl (by repeat' constructor) (by rfl) (by rfl) (by rfl) (by rfl) (by omega) (by omega) ?_; intro a56 c56; rw [YO, show out.length + 1 = (out ++ [(Xp ((([Q3 (zs[((k : Int) % zs.length).toNat]'hix) 3, Q3 (zs[((k : Int) % zs.length).toNat]'hix) 3 / 2, 0] : List Int).take C.toNat).map (fun x => Q3 x (M + 1)))).1]).length from by simp])
          refine WpL.nil ⟨rfl, rfl, ?_⟩
          apply Xs [⟨10, 57, _, [0, 1, 2, 3, 4, 5, 6, 7, 8, 9], false⟩] [] [10] [] [] (.inr rfl) rfl rfl rfl (by kernel_rfl) rfl (by kernel_rfl) rfl rfl
          ·refine Qu 10 [0, 1, 2, 3, 4, 5, 6, 7, 8, 9] rfl rfl rfl rfl (by kernel_rfl) rfl ?_ ?_
           ·exact Qk (o2 := 2) rfl rfl rfl (Qm rfl)
           exact AllF.nil
          ·refine QV rfl rfl rfl (WpL.nil ⟨rfl, rfl, ?_⟩)
           apply Yx [] 12 (by kernel_rfl) (.inr rfl) rfl rfl
           ·exact AllF.nil
           ·refine Qa (Qc rfl rfl (QA rfl rfl rfl (Qo (by omega) (by omega)) ?_))
            refine Qd rfl rfl (WpL.nil (Qq (⟨k + 1, out ++ [(Xp ((([Q3 (zs[((k : Int) % zs.length).toNat]'hix) 3, Q3 (zs[((k : Int) % zs.length).toNat]'hix) 3 / 2, 0] : List Int).take C.toNat).map (fun x => Q3 x (M + 1)))).1], a56, c56⟩ : GdX) ?_ ?_ (by exact Top.le (by repeat (first | exact FrLe.nil | refine FrLe.cons rfl ?_))) (by repeat (first | exact FrLe.nil | refine FrLe.cons rfl ?_)) ?_))
            ·refine ⟨by simp only; omega, by simp; omega, ?_⟩
             intro p hp
             rcases List.mem_append.1 hp with hp | hp
             ·exact hcan p hp
             ·have := List.mem_singleton.1 hp
              subst this
              exact gx_good hC hM
            ·simp only; omega
            ·exact Take.ent' (by repeat' constructor)
     ·refine Wp.skip (Qb (Qa (Qc rfl rfl (Qi rfl rfl (by repeat' constructor) (Yb _ _ (by omega) (by omega) (by omega)) ?_))))
      rintro _ _ ⟨rfl, rfl⟩
      simp only [Qs]
      refine Qd rfl rfl (WpL.nil (Xb (gr := [(0, _), (1, _), (2, _), (4, _), (5, _), (6, _), (7, _), (9, _)]) (FrLe.cons rfl (FrLe.cons rfl (FrLe.cons rfl (FrLe.cons rfl (FrLe.cons rfl (FrLe.cons rfl (FrLe.cons rfl (FrLe.cons rfl FrLe.nil)))))))) ?_))
      apply Yy (fB := [QK gM [.int .i64 (1 + Q3 w most), .int .i64 (1 + Q3 h most), .slice a out.length c] 69, QK gF [.int .i64 C, .int .i64 M] 48]) [0, 1, 2, 3, 4, 6, 5, 7, 8, 9, 10, 11] [47, 48, 49, 50, 51, 53, 52, 54, 55, 56, 57] 12 mixed (by kernel_rfl) [(6, false), (1, false), (0, false), (1, false)] (by kernel_rfl) (by kernel_rfl) (by kernel_rfl)
      apply Xs [⟨0, 47, _, [], true⟩, ⟨1, 48, _, [0], true⟩, ⟨2, 49, _, [], false⟩, ⟨3, 50, _, [], false⟩, ⟨4, 51, _, [3], false⟩, ⟨5, 53, _, [], true⟩] [] [2, 3, 4] [54, 55, 56, 57] [54, 55, 56, 57, 47, 48, 53] (.inl ⟨_, by repeat' constructor⟩) rfl rfl rfl (by kernel_rfl) rfl (by kernel_rfl) rfl rfl
      ·refine QF 0 [] rfl rfl rfl rfl (by kernel_rfl) rfl ?_ ?_
       ·exact Qk (o2 := 2) rfl rfl rfl (Qm rfl)
       refine QF 1 [0] rfl rfl rfl rfl (by kernel_rfl) rfl ?_ ?_
       ·refine Qn rfl rfl (by rfl) ?_
        exact Qm rfl
       refine Qu 2 [] rfl rfl rfl rfl (by kernel_rfl) rfl ?_ ?_
       ·exact Qc rfl rfl (Qm rfl)
       refine Qu 3 [] rfl rfl rfl rfl (by kernel_rfl) rfl ?_ ?_
       ·exact Qc rfl rfl (Qm rfl)
       refine Qu 4 [3] rfl rfl rfl rfl (by kernel_rfl) rfl ?_ ?_
       ·refine YR rfl rfl rfl (by omega) (by omega) (Qo (by omega) (by omega)) ?_
        exact Qm rfl
       refine QF 5 [] rfl rfl rfl rfl (by kernel_rfl) rfl ?_ ?_
       ·refine Qw (vs := [_, _]) rfl rfl rfl (by rfl) ?_
        exact Qm rfl
       exact AllF.nil
      ·refine s_bs3 rfl rfl rfl rfl rfl rfl rfl rfl ?_
       intro g7
       refine WpL.nil ⟨rfl, rfl, ?_⟩
       apply Xs [⟨7, 54, _, [5, 6], false⟩] [0, 1, 5] [5, 7] [56, 57] [56, 57, 47, 48] (.inl ⟨_, by repeat' constructor⟩) rfl rfl rfl (by kernel_rfl) rfl (by kernel_rfl) rfl rfl
       ·refine Qu 7 [5, 6] rfl rfl rfl rfl (by kernel_rfl) rfl ?_ ?_
        ·refine Qi rfl rfl (by repeat' constructor) (GoodPx3_spec [_] _ _ [_, _, 0] C M rds_blk3 (by simp only [List.mem_cons, List.not_mem_nil, or_false]; rintro x (rfl | rfl | rfl) <;> omega) (by simp only [List.length_cons, List.length_nil]; omega) hC hM.1 hM.2) ?_
         rintro _ _ ⟨rfl, rfl⟩
         simp only [Qs]
         exact WpL.nil ⟨rfl, rfl, rfl, by exact Ent.refl _⟩
        exact AllF.nil
       ·refine X4 rfl rfl rfl rfl ?_
        intro g8
        refine WpL.nil ⟨rfl, rfl, ?_⟩
        apply Xs [] [0, 1] [0, 1] [57] [57] (.inl ⟨_, by repeat' constructor⟩) rfl rfl rfl (by kernel_rfl) rfl (by kernel_rfl) rfl rfl
        ·exact AllF.nil
        ·(refine XN rfl rfl rfl (by repeat' constructor) (by rfl) (by rfl) (by rfl) (by rfl) (by omega) (by omega) ?_; intro a56 c56; rw [YO, show out.length + 1 = (out ++ [(Xp ((([Q3 0 3, Q3 0 3 / 2, 0] : List Int).take C.toNat).map (fun x => Q3 x (M + 1)))).1]).length from by simp])
         refine WpL.nil ⟨rfl, rfl, ?_⟩
         apply Xs [⟨10, 57, _, [0, 1, 2, 3, 4, 5, 6, 7, 8, 9], false⟩] [] [10] [] [] (.inr rfl) rfl rfl rfl (by kernel_rfl) rfl (by kernel_rfl) rfl rfl
         ·refine Qu 10 [0, 1, 2, 3, 4, 5, 6, 7, 8, 9] rfl rfl rfl rfl (by kernel_rfl) rfl ?_ ?_
          ·exact Qk (o2 := 2) rfl rfl rfl (Qm rfl)
          exact AllF.nil
         ·refine QV rfl rfl rfl (WpL.nil ⟨rfl, rfl, ?_⟩)
          apply Yx [] 12 (by kernel_rfl) (.inr rfl) rfl rfl
          ·exact AllF.nil
          ·refine Qa (Qc rfl rfl (QA rfl rfl rfl (Qo (by omega) (by omega)) ?_))
           refine Qd rfl rfl (WpL.nil (Qq (⟨k + 1, out ++ [(Xp ((([Q3 0 3, Q3 0 3 / 2, 0] : List Int).take C.toNat).map (fun x => Q3 x (M + 1)))).1], a56, c56⟩ : GdX) ?_ ?_ (by exact Top.le (by repeat (first | exact FrLe.nil | refine FrLe.cons rfl ?_))) (by repeat (first | exact FrLe.nil | refine FrLe.cons rfl ?_)) ?_))
           ·refine ⟨by simp only; omega, by simp; omega, ?_⟩
            intro p hp
            rcases List.mem_append.1 hp with hp | hp
            ·exact hcan p hp
            ·have := List.mem_singleton.1 hp
             subst this
             exact gx_good hC hM
           ·simp only; omega
           ·exact Take.ent' (by repeat' constructor)
    ·refine QP (Qb (Qa ?_))
     refine Qw (vs := [_, _]) rfl rfl rfl (by rfl) ?_
     refine Qw (vs := [_, _, _]) rfl rfl rfl (by rfl) ?_
     refine Xu rfl rfl ?_
     refine QC rfl rfl rfl (by rfl) rfl ?_
     refine WpL.nil (Qh ?_)
     apply RetQ.mk
     ·exact (XC rfl rfl (by rfl))
     ·exact ⟨⟨C, M, (1 + Q3 w most), (1 + Q3 h most), out⟩, a, c, ⟨hC, hM, by simp only; omega, by simp only; omega, by simp only; omega, hcan⟩, rfl, rfl⟩
     ·exact Take.ent' (by repeat' constructor)

end Go.Proofs.YtggamdlpiejbiaaGreat
namespace Go.Proofs.YtggamdlpiejbiaaGreat
open Go.RowKit Go.Shelf


/-- What an image is made of, as it lies. -/
structure GS where
  (three : Bool) (mx w h : Int) (a : Option Addr) (c : Nat) (zs : List Int)
def gC (g : GS) : List Value := [.bool g.three, .int .i64 g.mx, .int .i64 g.w, .int .i64 g.h, .slice g.a g.zs.length g.c]
end Go.Proofs.YtggamdlpiejbiaaGreat
namespace Go.Proofs.YtggamdlpiejbiaaGreat
open Go.ChangeShapes Go.WideShapes Go.ChangeAt Go.RowKit Go.Shelf

def GsOk1 (A0 : HP) (g : GS) : Prop := (∀ x ∈ g.zs, -9223372036854775808 ≤ x ∧ x < 9223372036854775808) ∧ g.zs.length ≤ 9223372036854775807 ∧ RdsL [A0] g.a (Q5 g.zs) ∧ (-9223372036854775808 ≤ g.mx ∧ g.mx < 9223372036854775808) ∧ (-9223372036854775808 ≤ g.w ∧ g.w < 9223372036854775808) ∧ (-9223372036854775808 ≤ g.h ∧ g.h < 9223372036854775808)
theorem open_G {H : Type} {enc : TypeId × Value → H} {W : World} {sp : Nat → Bool} {held : Bool} {fuel : Nat} {cs : List Value} {x : DataW H × List MemPlace} (h : DataW.trod enc Tryz.prog W 0 sp held fuel 74 cs = some x) : ∃ g : GS, cs = gC g ∧ GsOk1 (oldW W) g := by
  obtain ⟨xs, n, rfl, rfl, hl, hxl, hf⟩ := DataW.trod_struct Tryz.underlying74 h
  rw [show Tryz.prog.cellsOf 74 = 5 by kernel_rfl] at hl
  obtain ⟨c0, c1, c2, c3, c4, rfl⟩ := len5 hl
  have f0 : DataW.trod enc Tryz.prog W 0 sp held n 4 (([c0, c1, c2, c3, c4].drop 0).take (Tryz.prog.cellsOf 4)) = xs[0]? := hf 0 _ rfl
  rw [show Tryz.prog.cellsOf 4 = 1 by kernel_rfl, List.getElem?_eq_getElem (show 0 < xs.length by rw [hxl]; decide)] at f0
  change DataW.trod enc Tryz.prog W 0 sp held n 4 [c0] = _ at f0
  have f1 : DataW.trod enc Tryz.prog W 0 sp held n 3 (([c0, c1, c2, c3, c4].drop 1).take (Tryz.prog.cellsOf 3)) = xs[1]? := hf 1 _ rfl
  rw [show Tryz.prog.cellsOf 3 = 1 by kernel_rfl, List.getElem?_eq_getElem (show 1 < xs.length by rw [hxl]; decide)] at f1
  change DataW.trod enc Tryz.prog W 0 sp held n 3 [c1] = _ at f1
  have f2 : DataW.trod enc Tryz.prog W 0 sp held n 3 (([c0, c1, c2, c3, c4].drop 2).take (Tryz.prog.cellsOf 3)) = xs[2]? := hf 2 _ rfl
  rw [show Tryz.prog.cellsOf 3 = 1 by kernel_rfl, List.getElem?_eq_getElem (show 2 < xs.length by rw [hxl]; decide)] at f2
  change DataW.trod enc Tryz.prog W 0 sp held n 3 [c2] = _ at f2
  have f3 : DataW.trod enc Tryz.prog W 0 sp held n 3 (([c0, c1, c2, c3, c4].drop 3).take (Tryz.prog.cellsOf 3)) = xs[3]? := hf 3 _ rfl
  rw [show Tryz.prog.cellsOf 3 = 1 by kernel_rfl, List.getElem?_eq_getElem (show 3 < xs.length by rw [hxl]; decide)] at f3
  change DataW.trod enc Tryz.prog W 0 sp held n 3 [c3] = _ at f3
  have f4 : DataW.trod enc Tryz.prog W 0 sp held n 26 (([c0, c1, c2, c3, c4].drop 4).take (Tryz.prog.cellsOf 26)) = xs[4]? := hf 4 _ rfl
  rw [show Tryz.prog.cellsOf 26 = 1 by kernel_rfl, List.getElem?_eq_getElem (show 4 < xs.length by rw [hxl]; decide)] at f4
  change DataW.trod enc Tryz.prog W 0 sp held n 26 [c4] = _ at f4
  obtain ⟨b0, e0, _⟩ := DataW.trod_bool Tryz.underlying4 f0
  obtain rfl : c0 = _ := by simpa using e0
  obtain ⟨z1, e1, _, w1⟩ := DataW.trod_int Tryz.underlying3 f1
  obtain rfl : c1 = _ := by simpa using e1
  have b1 := wf_i64 w1
  obtain ⟨z2, e2, _, w2⟩ := DataW.trod_int Tryz.underlying3 f2
  obtain rfl : c2 = _ := by simpa using e2
  have b2 := wf_i64 w2
  obtain ⟨z3, e3, _, w3⟩ := DataW.trod_int Tryz.underlying3 f3
  obtain rfl : c3 = _ := by simpa using e3
  have b3 := wf_i64 w3
  obtain ⟨a4, n4, k4, zs4, e4, hzl4, hnk4, hkm4, hz4, hr4⟩ := open_nums Tryz.underlying26 Tryz.underlying3 (by kernel_rfl) f4
  obtain rfl : c4 = _ := by simpa using e4
  subst hzl4
  have b4 : ∀ x ∈ zs4, _ := fun x hx => wf_i64 (hz4 x hx)
  have m4 : zs4.length ≤ 9223372036854775807 := by unfold maxLen at hkm4; omega
  exact ⟨⟨b0, z1, z2, z3, a4, k4, zs4⟩, rfl, ⟨b4, m4, hr4, b1, b2, b3⟩⟩
end Go.Proofs.YtggamdlpiejbiaaGreat
namespace Go.Proofs.YtggamdlpiejbiaaGreat
open Go.RowKit Go.Shelf


/-- The kinds that may tell a format. -/
def kP (C M : Int) (k : Nat) : Bool := decide (1 ≤ k) && decide (((k : Int) % 3 = 0 ↔ C = 3) ∧ ((k : Int) % 3 ≠ 1 ∨ M = 1))
def kUp (C M : Int) (k : Nat) : List Int := ((List.range k).filter (kP C M)).map fun i : Nat => (i : Int)
theorem kUp_y {C M : Int} {k : Nat} (h : kP C M k = true) : kUp C M (k + 1) = kUp C M k ++ [(k : Int)] := by unfold kUp; rw [List.range_succ, List.filter_append, List.map_append]; simp [h]
theorem kUp_n {C M : Int} {k : Nat} (h : kP C M k = false) : kUp C M (k + 1) = kUp C M k := by unfold kUp; rw [List.range_succ, List.filter_append, List.map_append]; simp [h]
theorem kUp_one {C M : Int} : kUp C M 1 = [] := by unfold kUp kP; simp [List.range_succ]
theorem kUp_len {C M : Int} {k : Nat} : (kUp C M k).length ≤ k := by
  unfold kUp
  rw [List.length_map]
  exact Nat.le_trans (List.length_filter_le _ _) (by rw [List.length_range]; exact Nat.le_refl _)
def Q4 (C M : Int) : List Int := if YY C M then kUp C M 7 else []
structure KdX where
  (k : Nat) (out : List Int) (a : Option Addr) (c : Nat)

theorem rKinds10_spec (C M : Int) : Fn Tryz.prog 36 #[.agg #[.int .i64 C, .int .i64 M]] [] (fun v l => ∃ a c, v = .slice a (Q4 C M).length c ∧ l = [QX 3 1 a c (Q4 C M).length (Q5 (Q4 C M))]) := by
 refine Ql (vs := [.agg #[.int .i64 C, .int .i64 M]]) Tryz.func36 rfl Tryz.ntmps36 rfl (Qb (Qa (Q2 rfl rfl rfl ?_)))
 intro gF
 refine Qd rfl rfl (WpL.nil (Qb (Qa ?_)))
 refine Qw (vs := [_, _]) rfl rfl rfl (by rfl) ?_
 refine Qi rfl rfl (by repeat' constructor) (rFormat1_spec _ _) ?_
 rintro _ _ ⟨rfl, rfl⟩
 simp only [Qs]
 refine Qd rfl rfl (WpL.nil (Qb (Qb (Qa (Qc rfl rfl (XV rfl rfl (WpL.nil (Qj rfl (fun h0 => ?_) (fun h0 => ?_)))))))))
 ·refine Qb (Qa (Qd rfl rfl (WpL.nil (Qh ?_))))
  apply RetQ.mk
  ·exact (Res.one rfl rfl)
  ·exact ⟨none, 0, by rw [Q4, if_neg (by assumption)]; rfl, rfl⟩
  ·rw [show Q4 C M = [] from if_neg (by assumption)]
   exact Ent.own_nil (Ent.nil _)
 ·refine Wp.skip (Qb (Qa (Qd rfl rfl (WpL.nil (Qb (Qb (Qa (Qd rfl rfl (WpL.nil (Wp.block ?_))))))))))
  refine Wp.loopD (σ := KdX) (fun x => 1 ≤ x.k ∧ x.k ≤ 7 ∧ x.out = kUp C M x.k) [4, 5, 10, 11, 12, 13, 14, 15, 16, 17, 18, 19, 20, 21, 22, 23, 24, 25, 26, 27, 28, 29, 30, 31, 32, 33, 34] (fun x => [(5, .int .i64 (x.k : Int)), (4, .slice x.a x.out.length x.c)]) (fun x => [QX 3 1 x.a x.c x.out.length (Q5 x.out), QK gF [.int .i64 C, .int .i64 M] 48]) (fun x => 7 - x.k) ⟨1, [], none, 0⟩ ?_ (by repeat (first | exact FrLe.nil | refine FrLe.cons rfl ?_)) ?_ ?_
  ·exact ⟨Nat.le_refl _, by simp, kUp_one.symm⟩
  ·exact Ent.own_nil (Ent.refl _)
  ·rintro ⟨k, out, a, c⟩ ⟨hk1, hk7, ho⟩
   dsimp only at hk1 hk7 ho ⊢
   have hkl := kUp_len (C := C) (M := M) (k := k)
   rw [← ho] at hkl
   refine Qb (Qb (Qa (Qc rfl rfl (VE rfl rfl rfl (WpL.nil (Qj rfl (fun h2 => ?_) (fun h2 => ?_)))))))
   ·refine Wp.skip (Qb (Wp.block ?_))
    refine Qb (Qa (Qc rfl rfl (YD rfl rfl rfl (by omega) (by omega) ?_)))
    refine QH rfl rfl rfl (Qk (o2 := 0) rfl rfl rfl (Qn rfl rfl (by rfl) ?_))
    refine QH rfl rfl rfl (s_beq rfl Tryz.underlying4 rfl rfl (Qc rfl rfl (QN rfl rfl rfl (fun hg1 => ?_) (fun hg1 => ?_))))
    ·refine Qc rfl rfl (Qf rfl rfl (YD rfl rfl rfl (by omega) (by omega) ?_))
     refine Qf rfl rfl (Xq rfl rfl rfl (Qf rfl rfl (Qc rfl rfl (QN rfl rfl rfl (fun hg2 => ?_) (fun hg2 => ?_)))))
     ·have hg2 := of_decide_eq_false hg2
      refine Qk (o2 := 1) rfl rfl rfl (Qf rfl rfl (Qn rfl rfl (by rfl) ?_))
      refine Qf rfl rfl (QH rfl rfl rfl (Qf rfl rfl (Qt rfl rfl rfl (Qr rfl rfl rfl (WpL.nil (Qj rfl (fun h3 => ?_) (fun h3 => ?_)))))))
      ·refine Qa (Qc rfl rfl (Qc rfl rfl ?_))
       refine X4 rfl rfl rfl rfl ?_
       intro g2
       refine XN rfl rfl rfl (by repeat' constructor) (by rfl) (by rfl) (by rfl) (by rfl) (by omega) (by omega) ?_
       intro a34 c34
       rw [Ym, show out.length + 1 = (out ++ [(k : Int)]).length from by simp]
       refine Qd rfl rfl (WpL.nil (Qa (Qc rfl rfl (QA rfl rfl rfl (Qo (by omega) (by omega)) ?_))))
       refine Qd rfl rfl (WpL.nil (Qq (⟨k + 1, out ++ [(k : Int)], a34, c34⟩ : KdX) ?_ ?_ (by ((repeat (first | exact Top.refl | refine Top.push rfl ?_)); done)) (by repeat (first | exact FrLe.nil | refine FrLe.cons rfl ?_)) ?_))
       ·simp only [beq_iff_eq, decide_eq_decide] at hg1
        exact ⟨by simp only; omega, by simp only; omega, by simp only; rw [kUp_y (by unfold kP; simp only [Bool.and_eq_true, decide_eq_true_eq]; omega), ho]⟩
       ·simp only; omega
       ·exact Ent.refl _
      ·refine Wp.skip (Qa (Qc rfl rfl (QA rfl rfl rfl (Qo (by omega) (by omega)) ?_)))
       refine Qd rfl rfl (WpL.nil (Qq (⟨k + 1, out, a, c⟩ : KdX) ?_ ?_ (by ((repeat (first | exact Top.refl | refine Top.push rfl ?_)); done)) (by repeat (first | exact FrLe.nil | refine FrLe.cons rfl ?_)) ?_))
       ·simp only [beq_iff_eq, decide_eq_decide] at hg1
        exact ⟨by simp only; omega, by simp only; omega, by simp only; rw [kUp_n (by rw [Bool.eq_false_iff]; unfold kP; simp only [ne_eq, Bool.and_eq_true, decide_eq_true_eq]; omega), ho]⟩
       ·simp only; omega
       ·exact Ent.refl _
     ·have hg2 := of_decide_eq_true hg2
      refine Qe rfl rfl rfl (by decide) (Qe rfl rfl rfl (by decide) (Qf rfl rfl (Qr rfl rfl rfl (Qr rfl rfl rfl (WpL.nil (Xn rfl (Qa (Qc rfl rfl (Qc rfl rfl ?_)))))))))
      refine X4 rfl rfl rfl rfl ?_
      intro g3
      refine XN rfl rfl rfl (by repeat' constructor) (by rfl) (by rfl) (by rfl) (by rfl) (by omega) (by omega) ?_
      intro a34 c34
      rw [Ym, show out.length + 1 = (out ++ [(k : Int)]).length from by simp]
      refine Qd rfl rfl (WpL.nil (Qa (Qc rfl rfl (QA rfl rfl rfl (Qo (by omega) (by omega)) ?_))))
      refine Qd rfl rfl (WpL.nil (Qq (⟨k + 1, out ++ [(k : Int)], a34, c34⟩ : KdX) ?_ ?_ (by ((repeat (first | exact Top.refl | refine Top.push rfl ?_)); done)) (by repeat (first | exact FrLe.nil | refine FrLe.cons rfl ?_)) ?_))
      ·simp only [beq_iff_eq, decide_eq_decide] at hg1
       exact ⟨by simp only; omega, by simp only; omega, by simp only; rw [kUp_y (by unfold kP; simp only [Bool.and_eq_true, decide_eq_true_eq]; omega), ho]⟩
      ·simp only; omega
      ·exact Ent.refl _
    ·refine Qe rfl rfl rfl (by decide) (Qe rfl rfl rfl (by decide) (Qe rfl rfl rfl (by decide) (Xd rfl rfl rfl (Xd rfl rfl rfl (Xd rfl rfl rfl (Qe rfl rfl rfl (by decide) (Qt rfl rfl rfl (WpL.nil (QW rfl (Wp.skip (Qa (Qc rfl rfl ?_))))))))))))
     refine QA rfl rfl rfl (Qo (by omega) (by omega)) ?_
     refine Qd rfl rfl (WpL.nil (Qq (⟨k + 1, out, a, c⟩ : KdX) ?_ ?_ (by ((repeat (first | exact Top.refl | refine Top.push rfl ?_)); done)) (by repeat (first | exact FrLe.nil | refine FrLe.cons rfl ?_)) ?_))
     ·simp only [Bool.not_true, beq_eq_false_iff_ne, ne_eq, decide_eq_decide] at hg1
      exact ⟨by simp only; omega, by simp only; omega, by simp only; rw [kUp_n (by rw [Bool.eq_false_iff]; unfold kP; simp only [ne_eq, Bool.and_eq_true, decide_eq_true_eq]; omega), ho]⟩
     ·simp only; omega
     ·exact Ent.refl _
   ·have ho2 : out = Q4 C M := by rw [Q4, if_pos (Classical.not_not.1 h0), ho, show k = 7 by omega]
    subst ho2
    refine QP (Qb (Qa (Qc rfl rfl (Qd rfl rfl (WpL.nil (Qh ?_))))))
    apply RetQ.mk
    ·exact (Res.one rfl rfl)
    ·exact ⟨a, c, rfl, rfl⟩
    ·exact Take.ent' (by repeat' constructor)

end Go.Proofs.YtggamdlpiejbiaaGreat
namespace Go.Proofs.YtggamdlpiejbiaaGreat
open Go.RowKit Go.Shelf


theorem kinds_len {C M : Int} : (Q4 C M).length ≤ 7 := by
  unfold Q4
  split
  · exact kUp_len
  · simp
theorem VG {α : Type} (l : List α) {k : Nat} (h : k < l.length) : l.take (k + 1) = l.take k ++ [l[k]] := by
  rw [List.take_add_one, List.getElem?_eq_getElem h]
  rfl
end Go.Proofs.YtggamdlpiejbiaaGreat
namespace Go.Proofs.YtggamdlpiejbiaaGreat
open Go.RowKit Go.Shelf


def XR (w h : Int) : Prop := (1 ≤ w ∧ w ≤ 4096) ∧ (1 ≤ h ∧ h ≤ 65536) ∧ w * h ≤ 16777216
instance (w h : Int) : Decidable (XR w h) := by unfold XR; infer_instance
def YJ (C M W H : Int) (px : List Int) : Prop := XR W H ∧ (px.length : Int) = W * H ∧ ∀ p ∈ px, Yw p C M
instance (C M W H : Int) (px : List Int) : Decidable (YJ C M W H px) := by unfold YJ; infer_instance
theorem Take1.mid {A : HP} {As : List HP} : ∀ (Bs : List HP), Take1 (Bs ++ A :: As) A (Bs ++ As)
  | [] => .here
  | _ :: Bs => .there (Take1.mid Bs)
theorem Zu (Bs : List HP) : ∀ (As : List HP), Take (Bs ++ As) As Bs
  | [] => by rw [List.append_nil]; exact .nil
  | _ :: As => .cons (Take1.mid Bs) (Zu Bs As)
theorem Ent.left : ∀ (As F : List HP), Ent (As ++ F) As
  | [], _ => Ent.nil _
  | _ :: As, F => Ent.cons (Ent.left As F)
theorem sz_mul {w h : Int} (hw : 1 ≤ w ∧ w ≤ 4096) (hh : 1 ≤ h ∧ h ≤ 65536) : 0 ≤ w * h ∧ w * h ≤ 4096 * 65536 := ⟨Int.mul_nonneg (by omega) (by omega), Int.mul_le_mul (by omega) (by omega) (by omega) (by omega)⟩

theorem rSized_spec (w h : Int) : Fn Tryz.prog 175 #[.int .i64 w, .int .i64 h] [] (fun v l => v = .bool (decide (XR w h)) ∧ l = []) := by
 refine Ql (vs := [.int .i64 w, .int .i64 h]) Tryz.func175 rfl Tryz.ntmps175 rfl (Qb (Qa (Qd rfl rfl (WpL.nil (Qb (Qb (Qa (Qc rfl rfl (Q8 rfl rfl rfl (Qc rfl rfl (QN rfl rfl rfl (fun hg1 => ?_) (fun hg1 => ?_))))))))))))
 ·have hg1 := of_decide_eq_false hg1
  refine Qc rfl rfl (Qf rfl rfl (XU rfl rfl rfl (Qt rfl rfl rfl (Qc rfl rfl (QN rfl rfl rfl (fun hg2 => ?_) (fun hg2 => ?_))))))
  ·have hg2 := of_decide_eq_false hg2
   refine Qc rfl rfl (Qf rfl rfl (Q8 rfl rfl rfl (Qt rfl rfl rfl (Qc rfl rfl (QN rfl rfl rfl (fun hg3 => ?_) (fun hg3 => ?_))))))
   ·have hg3 := of_decide_eq_false hg3
    refine Qc rfl rfl (Qf rfl rfl (XU rfl rfl rfl (Qt rfl rfl rfl (WpL.nil (Qj rfl (fun h0 => ?_) (fun h0 => ?_))))))
    ·refine Qb (Qa (Qd rfl rfl (WpL.nil (Qh ?_))))
     apply RetQ.mk
     ·exact (Res.one rfl rfl)
     ·exact ⟨by rw [decide_eq_false (show ¬XR w h by unfold XR; omega)], rfl⟩
     ·exact Ent.refl _
    ·have hmb := sz_mul (w := w) (h := h) (by omega) (by omega)
     refine Wp.skip (Qb (Qa (Qc rfl rfl (Qc rfl rfl (Xv rfl rfl rfl (Qo (by omega) (by omega)) ?_)))))
     refine VE rfl rfl rfl (Qd rfl rfl (WpL.nil (Qh ?_)))
     apply RetQ.mk
     ·exact (Res.one rfl rfl)
     ·exact ⟨congrArg Value.bool (decide_eq_decide.2 (by unfold XR; omega)), rfl⟩
     ·exact Ent.refl _
   ·have hg3 := of_decide_eq_true hg3
    refine Qe rfl rfl rfl (by decide) (Qr rfl rfl rfl (WpL.nil (Xn rfl (Qb (Qa (Qd rfl rfl (WpL.nil (Qh ?_))))))))
    apply RetQ.mk
    ·exact (Res.one rfl rfl)
    ·exact ⟨by rw [decide_eq_false (show ¬XR w h by unfold XR; omega)], rfl⟩
    ·exact Ent.refl _
  ·have hg2 := of_decide_eq_true hg2
   refine Qe rfl rfl rfl (by decide) (Qr rfl rfl rfl (Qc rfl rfl (Qe rfl rfl rfl (by decide) (Qe rfl rfl rfl (by decide) (Qr rfl rfl rfl (WpL.nil (Xn rfl (Qb (Qa (Qd rfl rfl (WpL.nil (Qh ?_))))))))))))
   apply RetQ.mk
   ·exact (Res.one rfl rfl)
   ·exact ⟨by rw [decide_eq_false (show ¬XR w h by unfold XR; omega)], rfl⟩
   ·exact Ent.refl _
 ·have hg1 := of_decide_eq_true hg1
  refine Qe rfl rfl rfl (by decide) (Qr rfl rfl rfl (Qc rfl rfl (Qe rfl rfl rfl (by decide) (Qe rfl rfl rfl (by decide) (Qr rfl rfl rfl (Qc rfl rfl (Qe rfl rfl rfl (by decide) (Qe rfl rfl rfl (by decide) (Qr rfl rfl rfl (WpL.nil (Xn rfl (Qb ?_))))))))))))
  refine Qa (Qd rfl rfl (WpL.nil (Qh ?_)))
  apply RetQ.mk
  ·exact (Res.one rfl rfl)
  ·exact ⟨by rw [decide_eq_false (show ¬XR w h by unfold XR; omega)], rfl⟩
  ·exact Ent.refl _

theorem rMay03_spec (W H : Int) (a : Option Addr) (n c : Nat) : Fn Tryz.prog 133 #[.agg #[.int .i64 W, .int .i64 H, .slice a n c]] [] (fun v l => v = .bool (decide (XR W H ∧ (n : Int) = W * H)) ∧ l = []) := by
 refine Ql (vs := [.agg #[.int .i64 W, .int .i64 H, .slice a n c]]) Tryz.func133 rfl Tryz.ntmps133 rfl (Qb (Qa (Q2 rfl rfl rfl ?_)))
 intro g1
 refine Qd rfl rfl (WpL.nil (Qb (Qa (Qk (o2 := 0) rfl rfl rfl (Qn rfl rfl (by rfl) ?_)))))
 refine Qk (o2 := 1) rfl rfl rfl (Qn rfl rfl (by rfl) ?_)
 refine Qi rfl rfl (by repeat' constructor) (rSized_spec _ _) ?_
 rintro _ _ ⟨rfl, rfl⟩
 simp only [Qs]
 refine Qd rfl rfl (WpL.nil (Qb (Qb (Qa (Qc rfl rfl (XV rfl rfl (WpL.nil (Qj rfl (fun h0 => ?_) (fun h0 => ?_)))))))))
 ·refine Qb (Qa (Qd rfl rfl (WpL.nil (Qh ?_))))
  apply RetQ.mk
  ·exact (Res.one rfl rfl)
  ·exact ⟨by rw [decide_eq_false (fun q => absurd q.1 (by assumption))], rfl⟩
  ·exact Ent.nil _
 ·have hsz : XR W H := Classical.not_not.1 h0
  have hsz2 := hsz
  unfold XR at hsz2
  have hmb := sz_mul hsz2.1 hsz2.2.1
  refine Wp.skip (Qb (Qa (Qk (o2 := 2) rfl rfl rfl (Qn rfl rfl (by rfl) ?_))))
  refine QO rfl rfl (Qk (o2 := 0) rfl rfl rfl (Qn rfl rfl (by rfl) ?_))
  refine Qk (o2 := 1) rfl rfl rfl (Qn rfl rfl (by rfl) ?_)
  refine Xv rfl rfl rfl (Qo (by omega) (by omega)) ?_
  refine QH rfl rfl rfl (Qd rfl rfl (WpL.nil (Qh ?_)))
  apply RetQ.mk
  ·exact (Res.one rfl rfl)
  ·exact ⟨congrArg Value.bool (decide_eq_decide.2 ⟨fun q => ⟨hsz, q⟩, fun q => q.2⟩), rfl⟩
  ·exact Ent.nil _

theorem rFits03_spec (As : List HP) (W H : Int) (a : Option Addr) (c : Nat) (px : List Int) (C M : Int) (hA : RdsL As a (XQ px)) (hb : ∀ p ∈ px, 0 ≤ p ∧ p < 18446744073709551616) (hl : px.length ≤ 9223372036854775807) : Fn Tryz.prog 86 #[.agg #[.int .i64 W, .int .i64 H, .slice a px.length c], .agg #[.int .i64 C, .int .i64 M]] As (fun v l => v = .bool (decide (YJ C M W H px)) ∧ l = As) := by
 refine Ql (vs := [.agg #[.int .i64 W, .int .i64 H, .slice a px.length c], .agg #[.int .i64 C, .int .i64 M]]) Tryz.func86 rfl Tryz.ntmps86 rfl (Qb (Qa (Q2 rfl rfl rfl ?_)))
 intro gM
 refine Q2 rfl rfl rfl ?_
 intro gF
 refine Qd rfl rfl (WpL.nil (Qb (Qa ?_)))
 refine Qw (vs := [_, _, _]) rfl rfl rfl (by rfl) ?_
 refine Qi rfl rfl (by repeat' constructor) (rMay03_spec _ _ _ _ _) ?_
 rintro _ _ ⟨rfl, rfl⟩
 simp only [Qs]
 refine Qd rfl rfl (WpL.nil (Qb (Qb (Qa (Qc rfl rfl (XV rfl rfl (WpL.nil (Qj rfl (fun h0 => ?_) (fun h0 => ?_)))))))))
 ·refine Qb (Qa (Qd rfl rfl (WpL.nil (Qh ?_))))
  apply RetQ.mk
  ·exact (Res.one rfl rfl)
  ·exact ⟨by rw [decide_eq_false (fun q => absurd (⟨q.1, q.2.1⟩ : XR W H ∧ (px.length : Int) = W * H) (by assumption))], rfl⟩
  ·(repeat (first | exact Ent.refl _ | refine Ent.drop ?_))
 ·have hmy := Classical.not_not.1 h0
  refine Wp.skip (Qb (Qb (Qa (Qd rfl rfl (WpL.nil (Wp.block ?_))))))
  refine Wp.loopD (σ := Nat) (fun k => k ≤ px.length ∧ ∀ p ∈ px.take k, Yw p C M) [4, 6, 7, 12, 13, 14, 15, 16, 17, 18, 19, 20, 21, 22, 23, 24, 25, 26, 27] (fun k => [(6, .int .i64 (k : Int))]) (fun k => QK gF [.int .i64 C, .int .i64 M] 48 :: QK gM [.int .i64 W, .int .i64 H, .slice a px.length c] 69 :: As) (fun k => px.length - k) 0 ?_ (by repeat (first | exact FrLe.nil | refine FrLe.cons rfl ?_)) ?_ ?_
  ·exact ⟨Nat.zero_le _, by simp⟩
  ·exact Ent.refl _
  ·rintro k ⟨hk, hfi⟩
   refine Qb (Qb (Qa (Qc rfl rfl (Qk (o2 := 2) rfl rfl rfl (Qn rfl rfl (by rfl) ?_)))))
   refine QO rfl rfl (Q8 rfl rfl rfl (WpL.nil (Qj rfl (fun h2 => ?_) (fun h2 => ?_))))
   ·have hlt : k < px.length := by omega
    have hpb := hb _ (List.getElem_mem hlt)
    refine Wp.skip (Qb (Wp.block ?_))
    refine Qb ?_
    apply Q9 mixed [⟨19, _, []⟩, ⟨20, _, [0]⟩, ⟨21, _, []⟩, ⟨22, _, [1, 2]⟩, ⟨23, _, [3]⟩, ⟨24, _, []⟩, ⟨25, _, [4, 5]⟩, ⟨7, _, [6, 0, 1, 2, 3, 4, 5]⟩] rfl
    ·refine AllObs.mk ?_ ?_
     ·exact Qk (o2 := 2) rfl rfl rfl (Qm rfl)
     refine AllObs.mk ?_ ?_
     ·refine Qn rfl rfl (by rfl) ?_
      exact Qm rfl
     refine AllObs.mk ?_ ?_
     ·exact Qc rfl rfl (Qm rfl)
     refine AllObs.mk ?_ ?_
     ·refine Xg k rfl rfl rfl hA (by (repeat (first | exact Ent.refl _ | refine Ent.drop ?_))) rfl (by omega) (by rw [Yh]; omega) ?_
      exact Qm rfl
     refine AllObs.mk ?_ ?_
     ·refine Xk rfl rfl hA (by (repeat (first | exact Ent.refl _ | refine Ent.drop ?_))) (Y6 px hlt) ?_
      exact Qm rfl
     refine AllObs.mk ?_ ?_
     ·refine Qw (vs := [_, _]) rfl rfl rfl (by rfl) ?_
      exact Qm rfl
     refine AllObs.mk ?_ ?_
     ·refine Qi rfl rfl (by repeat' constructor) (rFits_spec _ _ _ hpb.1 hpb.2) ?_
      rintro _ _ ⟨rfl, rfl⟩
      simp only [Qs]
      exact WpL.nil ⟨rfl, rfl, rfl, by exact Ent.refl _⟩
     refine AllObs.mk ?_ ?_
     ·exact Qd rfl rfl (Qm rfl)
     exact AllObs.nil
    ·refine Qb (Qa (Qc rfl rfl (XV rfl rfl (WpL.nil (Qj rfl (fun h3 => ?_) (fun h3 => ?_))))))
     ·refine Qb (Qa (Qd rfl rfl (WpL.nil (Qh ?_))))
      apply RetQ.mk
      ·exact (Res.one rfl rfl)
      ·exact ⟨by rw [decide_eq_false (fun q => absurd (q.2.2 _ (List.getElem_mem hlt)) (by assumption))], rfl⟩
      ·(repeat (first | exact Ent.refl _ | refine Ent.drop ?_))
     ·refine Wp.skip (Qa (Qc rfl rfl (QA rfl rfl rfl (Qo (by omega) (by omega)) ?_)))
      refine Qd rfl rfl (WpL.nil (Qq (k + 1) ?_ ?_ (by ((repeat (first | exact Top.refl | refine Top.push rfl ?_)); done)) (by repeat (first | exact FrLe.nil | refine FrLe.cons rfl ?_)) ?_))
      ·refine ⟨by omega, ?_⟩
       rw [VG px hlt]
       intro q hq
       rcases List.mem_append.1 hq with hq | hq
       ·exact hfi q hq
       ·rw [List.mem_singleton.1 hq]; exact Classical.not_not.1 (by assumption)
      ·omega
      ·exact Ent.refl _
   ·refine QP (Qb (Qa (Qd rfl rfl (WpL.nil (Qh ?_)))))
    apply RetQ.mk
    ·exact (Res.one rfl rfl)
    ·have hkE : k = px.length := by omega
     rw [hkE, List.take_length] at hfi
     exact ⟨by rw [decide_eq_true (p := YJ C M W H px) ⟨hmy.1, hmy.2, hfi⟩], rfl⟩
    ·(repeat (first | exact Ent.refl _ | refine Ent.drop ?_))

theorem rMay10_spec (As : List HP) (C M W H : Int) (a : Option Addr) (c : Nat) (px : List Int) (hA : RdsL As a (XQ px)) (hb : ∀ p ∈ px, 0 ≤ p ∧ p < 18446744073709551616) (hl : px.length ≤ 9223372036854775807) : Fn Tryz.prog 47 #[.agg #[.int .i64 C, .int .i64 M, .int .i64 W, .int .i64 H, .slice a px.length c]] As (fun v l => v = .bool (decide (YJ C M W H px)) ∧ l = As) := by
 refine Ql (vs := [.agg #[.int .i64 C, .int .i64 M, .int .i64 W, .int .i64 H, .slice a px.length c]]) Tryz.func47 rfl Tryz.ntmps47 rfl (Qb (Qa (Q2 rfl rfl rfl ?_)))
 intro gI
 refine Qd rfl rfl (WpL.nil (Qb (Qa (Qk (o2 := 2) rfl rfl rfl ?_))))
 refine Qw (vs := [_, _, _]) rfl rfl rfl (by rfl) ?_
 refine Qk (o2 := 0) rfl rfl rfl ?_
 refine Qw (vs := [_, _]) rfl rfl rfl (by rfl) ?_
 refine Qi rfl rfl (Zu [_] As) (rFits03_spec As W H a c px C M hA hb hl) ?_
 rintro _ _ ⟨rfl, rfl⟩
 refine Qd rfl rfl (WpL.nil (Qh ?_))
 apply RetQ.mk
 ·exact (Res.one rfl rfl)
 ·exact ⟨rfl, rfl⟩
 ·exact Ent.left _ _

theorem rTells_spec (As : List HP) (C M W H : Int) (a : Option Addr) (c : Nat) (px : List Int) (hA : RdsL As a (XQ px)) (hb : ∀ p ∈ px, 0 ≤ p ∧ p < 18446744073709551616) (hl : px.length ≤ 9223372036854775807) (k : Int) : Fn Tryz.prog 67 #[.agg #[.int .i64 C, .int .i64 M, .int .i64 W, .int .i64 H, .slice a px.length c], .int .i64 k] As (fun v l => v = .bool (decide (k ∈ Q4 C M ∧ YJ C M W H px)) ∧ l = As) := by
 refine Ql (vs := [.agg #[.int .i64 C, .int .i64 M, .int .i64 W, .int .i64 H, .slice a px.length c], .int .i64 k]) Tryz.func67 rfl Tryz.ntmps67 rfl (Qb (Qa (Q2 rfl rfl rfl ?_)))
 intro gI
 refine Qd rfl rfl (WpL.nil (Qb (Qa (Qk (o2 := 0) rfl rfl rfl ?_))))
 refine Qw (vs := [_, _]) rfl rfl rfl (by rfl) ?_
 refine Qi rfl rfl (by repeat' constructor) (rKinds10_spec _ _) ?_
 rintro _ _ ⟨a9, c9, rfl, rfl⟩
 simp only [Qs]
 refine Qd rfl rfl (WpL.nil (Qb (Qb (Qa (Qd rfl rfl (WpL.nil (Wp.block ?_)))))))
 have hk7 := kinds_len (C := C) (M := M)
 refine Wp.loopD (σ := Nat) (fun i => i ≤ (Q4 C M).length ∧ ∀ q ∈ (Q4 C M).take i, q ≠ k) [4, 6, 10, 11, 12, 13, 14, 15, 16, 17, 18, 19, 20, 21, 22, 23] (fun i => [(6, .int .i64 (i : Int))]) (fun i => QX 3 1 a9 c9 (Q4 C M).length (Q5 (Q4 C M)) :: QK gI [.int .i64 C, .int .i64 M, .int .i64 W, .int .i64 H, .slice a px.length c] 71 :: As) (fun i => (Q4 C M).length - i) 0 ?_ (by repeat (first | exact FrLe.nil | refine FrLe.cons rfl ?_)) ?_ ?_
 ·exact ⟨Nat.zero_le _, by simp⟩
 ·exact Ent.refl _
 ·rintro i ⟨hi, hne⟩
  refine Qb (Qb (Qa (Qc rfl rfl (Qc rfl rfl (QO rfl rfl (Q8 rfl rfl rfl (WpL.nil (Qj rfl (fun h1 => ?_) (fun h1 => ?_)))))))))
  ·have hlt : i < (Q4 C M).length := by omega
   refine Wp.skip (Qb (Wp.block ?_))
   refine Qb (Qa (Qc rfl rfl (Qc rfl rfl (Xg i rfl rfl rfl (Q0 (T := 3) (s := 1)) (by exact Take.ent' (by repeat' constructor)) rfl (by omega) (by rw [Xf]; omega) ?_))))
   refine Xk rfl rfl (Q0 (T := 3) (s := 1)) (by exact Take.ent' (by repeat' constructor)) (XA (Q4 C M) hlt) ?_
   refine Qc rfl rfl (QH rfl rfl rfl (WpL.nil (Qj rfl (fun h2 => ?_) (fun h2 => ?_))))
   ·have hkm : k ∈ Q4 C M := by have q := List.getElem_mem hlt; rwa [show (Q4 C M)[i] = k by assumption] at q
    refine Qb (Qa ?_)
    refine Qw (vs := [_, _, _, _, _]) rfl rfl rfl (by rfl) ?_
    refine Qi rfl rfl (Zu [_, _] As) (rMay10_spec As C M W H a c px hA hb hl) ?_
    rintro _ _ ⟨rfl, rfl⟩
    refine Qd rfl rfl (WpL.nil (Qh ?_))
    apply RetQ.mk
    ·exact (Res.one rfl rfl)
    ·exact ⟨congrArg Value.bool (decide_eq_decide.2 ⟨fun q => ⟨hkm, q⟩, fun q => q.2⟩), rfl⟩
    ·exact Ent.left _ _
   ·refine Wp.skip (Qa (Qc rfl rfl (QA rfl rfl rfl (Qo (by omega) (by omega)) ?_)))
    refine Qd rfl rfl (WpL.nil (Qq (i + 1) ?_ ?_ (by ((repeat (first | exact Top.refl | refine Top.push rfl ?_)); done)) (by repeat (first | exact FrLe.nil | refine FrLe.cons rfl ?_)) ?_))
    ·refine ⟨by omega, ?_⟩
     rw [VG _ hlt]
     intro q hq
     rcases List.mem_append.1 hq with hq | hq
     ·exact hne q hq
     ·rw [List.mem_singleton.1 hq]; assumption
    ·omega
    ·exact Ent.refl _
  ·refine QP (Qb (Qa (Qd rfl rfl (WpL.nil (Qh ?_)))))
   apply RetQ.mk
   ·exact (Res.one rfl rfl)
   ·rw [show i = (Q4 C M).length by omega, List.take_length] at hne
    exact ⟨by rw [decide_eq_false (fun q => hne _ q.1 rfl)], rfl⟩
   ·exact Ent.drop (Ent.drop (Ent.refl _))

end Go.Proofs.YtggamdlpiejbiaaGreat
namespace Go.Proofs.YtggamdlpiejbiaaGreat
open Go.RowKit Go.Shelf

theorem Decimal6_spec (n : Int) (h0 : 0 ≤ n) (h1 : n ≤ 1000000) : Fn Tryz.prog 118 #[.int .i64 n] [] (fun v l => ∃ s, v = .string s ∧ QJ s = XO n.toNat ∧ l = []) := by
 refine Ql (vs := [.int .i64 n]) Tryz.func118 rfl Tryz.ntmps118 rfl (Qb (Qa (Qd rfl rfl (WpL.nil (Qb (Qa (Qc rfl rfl (YD rfl rfl rfl (by omega) (by omega) ?_))))))))
 refine Qd rfl rfl (WpL.nil (Qb (Qb (Qa (Qc rfl rfl (Q8 rfl rfl rfl (WpL.nil (Qz rfl (by omega) ?_))))))))
 refine Wp.skip (Qb (Qa (Qc rfl rfl (QA rfl rfl rfl (Qo (by omega) (by omega)) ?_))))
 refine XY rfl Tryz.underlying3 rfl (w_u8 (by omega) (by omega)) ?_
 refine X4 rfl rfl rfl rfl ?_
 intro g1
 rw [show ([.int .u8 (48 + n % 10)] : List Value) = Xt [48 + n % 10] from rfl]
 refine s_b2s (xs := [48 + n % 10]) rfl Tryz.underlying22 Tryz.underlying5 Tryz.underlying9 rfl rfl (Qd rfl rfl (WpL.nil (Qb (Qb (Qa (Qc rfl rfl (XU rfl rfl rfl (Qc rfl rfl (Qx (dj := 18) rfl (decide_eq_true (by omega)) ?_)))))))))
 refine Qf rfl rfl (Qc rfl rfl (Qf rfl rfl (Q8 rfl rfl rfl (Qr rfl rfl rfl (WpL.nil (Qj rfl (fun h1 => ?_) (fun h1 => ?_)))))))
 ·refine Qb (Qb (Qa (Qc rfl rfl (Q8 rfl rfl rfl (WpL.nil (Qz rfl (by omega) ?_))))))
  refine Wp.skip (Qb (Qa (Qc rfl rfl (Qd rfl rfl (WpL.nil (Qh ?_))))))
  apply RetQ.mk
  ·exact (Res.one rfl rfl)
  ·exact ⟨_, rfl, by rw [Yj (by intro x hx; simp at hx; omega), XO, if_pos (by omega)]; congr 1; omega, rfl⟩
  ·exact Ent.nil _
 ·refine Wp.skip (Qb (Qa (Qc rfl rfl (YR rfl rfl rfl (by omega) (by omega) (Qo (by omega) (by omega)) ?_))))
  refine Qi rfl rfl (by repeat' constructor) (Decimal6_spec (n / 10) (by omega) (by omega)) ?_
  rintro _ _ ⟨s1, rfl, hs1, rfl⟩
  simp only [Qs]
  have hsz1 : s1.size ≤ 1000001 := by rw [← QZ, hs1]; have := Yz (n / 10).toNat; omega
  refine Qc rfl rfl (YC rfl rfl rfl (by rw [YF]; simp; omega) ?_)
  refine Qd rfl rfl (WpL.nil (Qh ?_))
  apply RetQ.mk
  ·exact (Res.one rfl rfl)
  ·exact ⟨_, rfl, by rw [Yc, hs1, Yj (by intro x hx; simp at hx; omega), digs_rec (n := n) (by omega)], rfl⟩
  ·exact Ent.nil _
termination_by n.toNat
decreasing_by omega


def hdW (K W H M : Int) : List Int := [80] ++ XO K.toNat ++ [10] ++ XO W.toNat ++ [32] ++ XO H.toNat ++ [10] ++ (if K = 1 ∨ K = 4 then [] else XO M.toNat ++ [10])
theorem lit1 (x : UInt8) : (ByteArray.mk #[x]).size = 1 := rfl
theorem ZW (n : Int) (h0 : 0 ≤ n) (h1 : n ≤ 1000000) : Fn Tryz.prog 118 #[.int .i64 n] [] (fun v l => v = .string (strOfNums (XO n.toNat)) ∧ l = []) := by
  refine Fn.mono (Decimal6_spec n h0 h1) ?_
  rintro v l ⟨s, rfl, hs, rfl⟩
  exact ⟨_, ⟨by rw [bsOf_inj (hs.trans (ZN _).symm)], rfl⟩, Ent.nil _⟩
theorem Z1 {n : Int} (h : n ≤ 1000000) : (strOfNums (XO n.toNat)).size ≤ 1000001 := by
  rw [YF]
  have := Yz n.toNat
  omega

theorem rWrite06_spec (K W H M : Int) (hM : XG K W H M) : Fn Tryz.prog 68 #[.agg #[.int .i64 K, .int .i64 W, .int .i64 H, .int .i64 M]] [] (fun v l => ∃ s, QJ s = hdW K W H M ∧ v = .tuple #[.string s, .int .i64 0] ∧ l = []) := by
 have hM2 := hM
 unfold XG at hM2
 have hs1 := Z1 (n := K) (by omega)
 have hs2 := Z1 (n := W) (by omega)
 have hs3 := Z1 (n := H) (by omega)
 have hs4 := Z1 (n := M) (by omega)
 refine Ql (vs := [.agg #[.int .i64 K, .int .i64 W, .int .i64 H, .int .i64 M]]) Tryz.func68 rfl Tryz.ntmps68 rfl (Qb (Qa (Q2 rfl rfl rfl ?_)))
 intro gH
 refine Qd rfl rfl (Qd rfl rfl (WpL.nil (Qb (Qa ?_))))
 refine Qw (vs := [_, _, _, _]) rfl rfl rfl (by rfl) ?_
 refine Qi rfl rfl (by repeat' constructor) (rMay06_spec _ _ _ _) ?_
 rintro _ _ ⟨rfl, rfl⟩
 simp only [Qs]
 refine Qd rfl rfl (WpL.nil (Qb (Qb (Qa (Qc rfl rfl (XV rfl rfl (WpL.nil (Qj rfl (fun h0 => ?_) (fun h0 => ?_)))))))))
 ·exfalso; exact absurd hM h0
 ·refine Wp.skip (Qb ?_)
  apply Q9 mixed [⟨10, _, []⟩, ⟨11, _, [0]⟩, ⟨12, _, [1]⟩, ⟨13, _, [2]⟩, ⟨14, _, [3]⟩, ⟨15, _, []⟩, ⟨16, _, [5]⟩, ⟨17, _, [6, 2]⟩, ⟨18, _, [4, 7]⟩, ⟨19, _, [8]⟩, ⟨20, _, []⟩, ⟨21, _, [10]⟩, ⟨22, _, [11, 7]⟩, ⟨23, _, [9, 12]⟩, ⟨24, _, [13]⟩, ⟨5, _, [14, 12, 0, 1, 2, 3, 4, 5, 6, 7, 8, 9, 10, 11, 13]⟩] rfl
  ·refine AllObs.mk ?_ ?_
   ·exact Qk (o2 := 0) rfl rfl rfl (Qm rfl)
   refine AllObs.mk ?_ ?_
   ·refine Qn rfl rfl (by rfl) ?_
    exact Qm rfl
   refine AllObs.mk ?_ ?_
   ·refine Qi rfl rfl (by repeat' constructor) (ZW _ (by omega) (by omega)) ?_
    rintro _ _ ⟨rfl, rfl⟩
    simp only [Qs]
    exact WpL.nil ⟨rfl, rfl, rfl, by exact Ent.refl _⟩
   refine AllObs.mk ?_ ?_
   ·refine YC rfl rfl rfl (by simp only [lit1]; omega) ?_
    exact Qm rfl
   refine AllObs.mk ?_ ?_
   ·refine YC rfl rfl rfl (by simp only [ByteArray.size_append, lit1]; omega) ?_
    exact Qm rfl
   refine AllObs.mk ?_ ?_
   ·exact Qk (o2 := 1) rfl rfl rfl (Qm rfl)
   refine AllObs.mk ?_ ?_
   ·refine Qn rfl rfl (by rfl) ?_
    exact Qm rfl
   refine AllObs.mk ?_ ?_
   ·refine Qi rfl rfl (by repeat' constructor) (ZW _ (by omega) (by omega)) ?_
    rintro _ _ ⟨rfl, rfl⟩
    simp only [Qs]
    exact WpL.nil ⟨rfl, rfl, rfl, by exact Ent.refl _⟩
   refine AllObs.mk ?_ ?_
   ·refine YC rfl rfl rfl (by simp only [ByteArray.size_append, lit1]; omega) ?_
    exact Qm rfl
   refine AllObs.mk ?_ ?_
   ·refine YC rfl rfl rfl (by simp only [ByteArray.size_append, lit1]; omega) ?_
    exact Qm rfl
   refine AllObs.mk ?_ ?_
   ·exact Qk (o2 := 2) rfl rfl rfl (Qm rfl)
   refine AllObs.mk ?_ ?_
   ·refine Qn rfl rfl (by rfl) ?_
    exact Qm rfl
   refine AllObs.mk ?_ ?_
   ·refine Qi rfl rfl (by repeat' constructor) (ZW _ (by omega) (by omega)) ?_
    rintro _ _ ⟨rfl, rfl⟩
    simp only [Qs]
    exact WpL.nil ⟨rfl, rfl, rfl, by exact Ent.refl _⟩
   refine AllObs.mk ?_ ?_
   ·refine YC rfl rfl rfl (by simp only [ByteArray.size_append, lit1]; omega) ?_
    exact Qm rfl
   refine AllObs.mk ?_ ?_
   ·refine YC rfl rfl rfl (by simp only [ByteArray.size_append, lit1]; omega) ?_
    exact Qm rfl
   refine AllObs.mk ?_ ?_
   ·exact Qd rfl rfl (Qm rfl)
   exact AllObs.nil
  ·refine Qb (Qb (Qa (Qk (o2 := 0) rfl rfl rfl (Qn rfl rfl (by rfl) ?_))))
   refine Qi rfl rfl (by repeat' constructor) (VB _) ?_
   rintro _ _ ⟨rfl, rfl⟩
   simp only [Qs]
   refine XV rfl rfl (WpL.nil (Qj rfl (fun h1 => ?_) (fun h1 => ?_)))
   ·refine Qa (Qc rfl rfl (Qk (o2 := 3) rfl rfl rfl (Qn rfl rfl (by rfl) ?_)))
    refine Qi rfl rfl (by repeat' constructor) (ZW _ (by omega) (by omega)) ?_
    rintro _ _ ⟨rfl, rfl⟩
    simp only [Qs]
    refine YC rfl rfl rfl (by simp only [ByteArray.size_append, lit1]; omega) ?_
    refine YC rfl rfl rfl (by simp only [ByteArray.size_append, lit1]; omega) ?_
    refine Qd rfl rfl (WpL.nil (Qb (Qa (Qc rfl rfl (Qd rfl rfl (Qd rfl rfl (WpL.nil (Qh ?_))))))))
    apply RetQ.mk
    ·exact (QM rfl rfl rfl)
    ·exact ⟨_, by simp only [Yc, ZN]; rw [hdW, if_neg (by assumption)]; simp [QJ], rfl, rfl⟩
    ·exact Ent.nil _
   ·refine Wp.skip (Qb (Qa (Qc rfl rfl (Qd rfl rfl (Qd rfl rfl (WpL.nil (Qh ?_)))))))
    apply RetQ.mk
    ·exact (QM rfl rfl rfl)
    ·exact ⟨_, by simp only [Yc, ZN]; rw [hdW, if_pos (Classical.not_not.1 (by assumption))]; simp [QJ], rfl, rfl⟩
    ·exact Ent.nil _

end Go.Proofs.YtggamdlpiejbiaaGreat
