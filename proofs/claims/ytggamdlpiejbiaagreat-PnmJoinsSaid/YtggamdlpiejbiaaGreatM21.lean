/- Walks and plain laws, a part of the proof of PnmJoins: every input that the law's guards let in, no condition beside. -/
import Derived.Test.YtggamdlpiejbiaaGreatM20
namespace Go.Proofs.YtggamdlpiejbiaaGreat
open Go.RowKit Go.Shelf


theorem rds_blk3 {g T : Nat} {a b c : Int} : RdsL [QA g [.int .i64 a, .int .i64 b, .int .i64 c] T] (some ⟨g, 0, none⟩) (QY [a, b, c]) := RdsL.blk rfl
theorem gx_good {C M z : Int} (hC : C = 1 ∨ C = 3) (hM : 1 ≤ M ∧ M ≤ 65535) : Can C M (Xx ((([QX z 3, QX z 3 / 2, 0] : List Int).take C.toNat).map (fun x => QX x (M + 1)))).1 ∧ 0 ≤ (Xx ((([QX z 3, QX z 3 / 2, 0] : List Int).take C.toNat).map (fun x => QX x (M + 1)))).1 ∧ (Xx ((([QX z 3, QX z 3 / 2, 0] : List Int).take C.toNat).map (fun x => QX x (M + 1)))).1 < 18446744073709551616 := by
  refine can_good hC hM ?_ fun x hx => ?_
  · rw [List.length_map, List.length_take]
    rcases hC with rfl | rfl <;> rfl
  · obtain ⟨y, _, rfl⟩ := List.mem_map.1 hx
    have := YN (x := y) (m := M + 1) (by omega)
    omega

set_option maxHeartbeats 4000000 in
theorem rGood10_spec (A0 : HP) (three : Bool) (mx w h : Int) (ga : Option Addr) (gc : Nat) (zs : List Int) (hz : ∀ x ∈ zs, -9223372036854775808 ≤ x ∧ x < 9223372036854775808) (hzl : zs.length ≤ 9223372036854775807) (hA : RdsL [A0] ga (QY zs)) (hmx : -9223372036854775808 ≤ mx ∧ mx < 9223372036854775808) (hgw : -9223372036854775808 ≤ w ∧ w < 9223372036854775808) (hgh : -9223372036854775808 ≤ h ∧ h < 9223372036854775808) (most : Int) (hmo : 1 ≤ most ∧ most ≤ 100) : Fn Tryz.prog 35 #[.agg #[.bool three, .int .i64 mx, .int .i64 w, .int .i64 h, .slice ga zs.length gc], .int .i64 most] [A0] (fun v l => ∃ m a c, YG most m ∧ v = .agg #[.int .i64 m.c, .int .i64 m.m, .int .i64 m.w, .int .i64 m.h, .slice a m.px.length c] ∧ l = [QG 92 1 a c m.px.length (Xp m.px), A0]) := by
 have haw := YN (x := w) (m := most) (by omega)
 have hah := YN (x := h) (m := most) (by omega)
 have hWH : (1 + QX w most) * (1 + QX h most) ≤ 100 * 100 := Int.mul_le_mul (by omega) (by omega) (by omega) (by omega)
 have hWH0 : 0 ≤ (1 + QX w most) * (1 + QX h most) := Int.mul_nonneg (by omega) (by omega)
 have hz30 := YN (x := 0) (m := 3) (by omega)
 refine Qk (vs := [.agg #[.bool three, .int .i64 mx, .int .i64 w, .int .i64 h, .slice ga zs.length gc], .int .i64 most]) Tryz.func35 rfl Tryz.ntmps35 rfl (Qb (Qa (Q9 rfl rfl rfl ?_)))
 intro gG
 refine YE rfl ?_
 intro gR
 refine WpL.nil (Qb (Qa ?_))
 refine QI (vs := [_, _, _, _, _]) rfl rfl rfl (by rfl) ?_
 refine Qh rfl rfl (by repeat' constructor) (rForm_spec _ _ _ _ _ _ _ hmx hgw hgh) ?_
 rintro _ _ ⟨C, M, hC, hM, rfl, rfl⟩
 simp only [Qr]
 refine YE rfl ?_
 intro gF
 refine XL rfl rfl rfl (by rfl) rfl ?_
 refine WpL.nil (Qb ?_)
 apply Wp.drawGA (fB := []) mixed 11 [(11, true)] rfl rfl (by kernel_rfl)
 apply GoR.segT [⟨0, 12, _, [], false⟩, ⟨1, 13, _, [0], false⟩, ⟨2, 14, _, [], false⟩, ⟨3, 15, _, [1, 2], false⟩, ⟨4, 16, _, [3], false⟩, ⟨5, 17, _, [], false⟩, ⟨6, 18, _, [5], false⟩, ⟨7, 19, _, [], false⟩, ⟨8, 20, _, [3, 6, 7], false⟩, ⟨9, 21, _, [8], false⟩, ⟨10, 22, _, [4, 9], false⟩] [] [0, 1, 2, 3, 4, 5, 6, 7, 8, 9, 10] [] (.inr rfl) rfl rfl rfl (by kernel_rfl) rfl rfl rfl rfl
 ·refine AllF.cons rfl rfl rfl rfl ?_ ?_
  ·exact Qj (o2 := 2) rfl rfl rfl (Qm rfl)
  refine AllF.cons rfl rfl rfl rfl ?_ ?_
  ·refine Qo rfl rfl (by rfl) ?_
   exact Qm rfl
  refine AllF.cons rfl rfl rfl rfl ?_ ?_
  ·exact Qc rfl rfl (Qm rfl)
  refine AllF.cons rfl rfl rfl rfl ?_ ?_
  ·refine Qh rfl rfl (by repeat' constructor) (Ys _ _ (by omega) (by omega) (by omega)) ?_
   rintro _ _ ⟨rfl, rfl⟩
   simp only [Qr]
   exact WpL.nil ⟨rfl, rfl, rfl, by exact Ent.refl _⟩
  refine AllF.cons rfl rfl rfl rfl ?_ ?_
  ·refine QD rfl rfl rfl (Qu (by omega) (by omega)) ?_
   exact Qm rfl
  refine AllF.cons rfl rfl rfl rfl ?_ ?_
  ·exact Qj (o2 := 3) rfl rfl rfl (Qm rfl)
  refine AllF.cons rfl rfl rfl rfl ?_ ?_
  ·refine Qo rfl rfl (by rfl) ?_
   exact Qm rfl
  refine AllF.cons rfl rfl rfl rfl ?_ ?_
  ·exact Qc rfl rfl (Qm rfl)
  refine AllF.cons rfl rfl rfl rfl ?_ ?_
  ·refine Qh rfl rfl (by repeat' constructor) (Ys _ _ (by omega) (by omega) (by omega)) ?_
   rintro _ _ ⟨rfl, rfl⟩
   simp only [Qr]
   exact WpL.nil ⟨rfl, rfl, rfl, by exact Ent.refl _⟩
  refine AllF.cons rfl rfl rfl rfl ?_ ?_
  ·refine QD rfl rfl rfl (Qu (by omega) (by omega)) ?_
   exact Qm rfl
  refine AllF.cons rfl rfl rfl rfl ?_ ?_
  ·refine YI rfl rfl ?_
   exact Qm rfl
  exact AllF.nil
 ·intro gM
  refine XL rfl rfl rfl (by rfl) rfl ?_
  refine WpL.nil ⟨rfl, rfl, ?_⟩
  apply GoR.nil [] (.inr rfl) rfl rfl
  ·exact AllF.nil
  ·refine QO (gr := [(0, _), (1, _), (2, _), (4, _), (5, _), (6, _)]) (FrLe.cons rfl (FrLe.cons rfl (FrLe.cons rfl (FrLe.cons rfl (FrLe.cons rfl (FrLe.cons rfl FrLe.nil)))))) ?_
   refine Qb (Qb (Qa (Qe rfl rfl (WpL.nil (Wp.block ?_)))))
   refine Wp.loopD (σ := GdX) (fun x => (x.k : Int) ≤ (1 + QX w most) * (1 + QX h most) ∧ x.out.length = x.k ∧ ∀ p ∈ x.out, Can C M p ∧ 0 ≤ p ∧ p < 18446744073709551616) [7, 8, 9, 23, 24, 25, 26, 27, 28, 29, 30, 31, 32, 33, 34, 35, 36, 37, 38, 39, 40, 41, 42, 43, 44, 45, 46, 47, 48, 49, 50, 51, 52, 53, 54, 55, 56, 57] (fun x => [(7, .int .i64 (x.k : Int))]) (fun x => [QG 92 1 x.a x.c x.out.length (Xp x.out), QA gM [.int .i64 (1 + QX w most), .int .i64 (1 + QX h most), .slice x.a x.out.length x.c] 69, QA gF [.int .i64 C, .int .i64 M] 48, QA gR [.int .i64 0, .int .i64 0, .int .i64 0, .int .i64 0, .slice none 0 0] 71, QA gG [.bool three, .int .i64 mx, .int .i64 w, .int .i64 h, .slice ga zs.length gc] 74, A0]) (fun x => ((1 + QX w most) * (1 + QX h most)).toNat - x.k) ⟨0, [], none, 0⟩ ?_ (by repeat (first | exact FrLe.nil | refine FrLe.cons rfl ?_)) ?_ ?_
   ·exact ⟨by simpa using hWH0, rfl, by simp⟩
   ·exact Ent.own_nil (Ent.refl _)
   ·rintro ⟨k, out, a, c⟩ ⟨hk, hol, hcan⟩
    dsimp only at hk hol hcan ⊢
    refine Qb (Qb (Qa (Qc rfl rfl (Qj (o2 := 0) rfl rfl rfl (Qo rfl rfl (by rfl) ?_)))))
    refine Qj (o2 := 1) rfl rfl rfl (Qo rfl rfl (by rfl) ?_)
    refine XK rfl rfl rfl (Qu (by omega) (by omega)) ?_
    refine Q7 rfl rfl rfl (WpL.nil (Ql rfl (fun h1 => ?_) (fun h1 => ?_)))
    ·refine Wp.skip (Qb (Wp.block ?_))
     refine Qb (Qa (Qe rfl rfl (WpL.nil (Qb (Qb (Qa (Qj (o2 := 4) rfl rfl rfl (Qo rfl rfl (by rfl) ?_))))))))
     refine QC rfl rfl (Zm rfl rfl rfl (WpL.nil (Ql rfl (fun h2 => ?_) (fun h2 => ?_))))
     ·have hix0 := Int.emod_nonneg (k : Int) (show (zs.length : Int) ≠ 0 by omega)
      have hix1 := Int.emod_lt_of_pos (k : Int) (show (0 : Int) < zs.length by omega)
      have hix : ((k : Int) % zs.length).toNat < zs.length := by omega
      have hzi := hz _ (List.getElem_mem hix)
      have hz3 := YN (x := zs[((k : Int) % zs.length).toNat]) (m := 3) (by omega)
      apply Q0 mixed [⟨36, _, []⟩, ⟨37, _, [0]⟩, ⟨38, _, []⟩, ⟨39, _, []⟩, ⟨40, _, [3]⟩, ⟨41, _, [4]⟩, ⟨42, _, [2, 5]⟩, ⟨43, _, [1, 6]⟩, ⟨44, _, [7]⟩, ⟨8, _, [8, 0, 1, 2, 3, 4, 5, 6, 7]⟩] rfl
      ·refine AllObs.mk ?_ ?_
       ·exact Qj (o2 := 4) rfl rfl rfl (Qm rfl)
       refine AllObs.mk ?_ ?_
       ·refine Qo rfl rfl (by rfl) ?_
        exact Qm rfl
       refine AllObs.mk ?_ ?_
       ·exact Qc rfl rfl (Qm rfl)
       refine AllObs.mk ?_ ?_
       ·exact Qj (o2 := 4) rfl rfl rfl (Qm rfl)
       refine AllObs.mk ?_ ?_
       ·refine Qo rfl rfl (by rfl) ?_
        exact Qm rfl
       refine AllObs.mk ?_ ?_
       ·exact QC rfl rfl (WpL.nil ⟨rfl, rfl, rfl, by exact Ent.refl _⟩)
       refine AllObs.mk ?_ ?_
       ·refine YV rfl rfl rfl (by omega) (by omega) ?_
        exact Qm rfl
       refine AllObs.mk ?_ ?_
       ·refine Q4 ((k : Int) % zs.length).toNat rfl rfl rfl hA (by exact Take.ent' (by repeat' constructor)) (by omega) hix (by rw [QT]; exact hix) ?_
        exact Qm rfl
       refine AllObs.mk ?_ ?_
       ·refine Q5 rfl rfl hA (by exact Take.ent' (by repeat' constructor)) (Xi zs hix) ?_
        exact Qm rfl
       refine AllObs.mk ?_ ?_
       ·exact Qe rfl rfl (Qm rfl)
       exact AllObs.nil
      ·refine Qb (Qa (Qc rfl rfl (Qh rfl rfl (by repeat' constructor) (Ys _ _ (by omega) (by omega) (by omega)) ?_)))
       rintro _ _ ⟨rfl, rfl⟩
       simp only [Qr]
       refine Qe rfl rfl (WpL.nil (QO (gr := [(0, _), (1, _), (2, _), (4, _), (5, _), (6, _), (7, _), (9, _)]) (FrLe.cons rfl (FrLe.cons rfl (FrLe.cons rfl (FrLe.cons rfl (FrLe.cons rfl (FrLe.cons rfl (FrLe.cons rfl (FrLe.cons rfl FrLe.nil)))))))) ?_))
       apply X8 (fB := [QA gM [.int .i64 (1 + QX w most), .int .i64 (1 + QX h most), .slice a out.length c] 69, QA gF [.int .i64 C, .int .i64 M] 48]) [0, 1, 2, 3, 4, 6, 5, 7, 8, 9, 10, 11] [47, 48, 49, 50, 51, 53, 52, 54, 55, 56, 57] 12 mixed (by kernel_rfl) [(6, false), (1, false), (0, false), (1, false)] (by kernel_rfl) (by kernel_rfl) (by kernel_rfl)
       apply Xe [⟨0, 47, _, [], true⟩, ⟨1, 48, _, [0], true⟩, ⟨2, 49, _, [], false⟩, ⟨3, 50, _, [], false⟩, ⟨4, 51, _, [3], false⟩, ⟨5, 53, _, [], true⟩] [] [2, 3, 4] [54, 55, 56, 57] [54, 55, 56, 57, 47, 48, 53] (.inl ⟨_, by repeat' constructor⟩) rfl rfl rfl (by kernel_rfl) rfl (by kernel_rfl) rfl rfl
       ·refine Qw 0 [] rfl rfl rfl rfl (by kernel_rfl) rfl ?_ ?_
        ·exact Qj (o2 := 2) rfl rfl rfl (Qm rfl)
        refine Qw 1 [0] rfl rfl rfl rfl (by kernel_rfl) rfl ?_ ?_
        ·refine Qo rfl rfl (by rfl) ?_
         exact Qm rfl
        refine Qp 2 [] rfl rfl rfl rfl (by kernel_rfl) rfl ?_ ?_
        ·exact Qc rfl rfl (Qm rfl)
        refine Qp 3 [] rfl rfl rfl rfl (by kernel_rfl) rfl ?_ ?_
        ·exact Qc rfl rfl (Qm rfl)
        refine Qp 4 [3] rfl rfl rfl rfl (by kernel_rfl) rfl ?_ ?_
        ·refine ZG rfl rfl rfl (by omega) (by omega) (Qu (by omega) (by omega)) ?_
         exact Qm rfl
        refine Qw 5 [] rfl rfl rfl rfl (by kernel_rfl) rfl ?_ ?_
        ·refine QI (vs := [_, _]) rfl rfl rfl (by rfl) ?_
         exact Qm rfl
        exact AllF.nil
       ·refine s_bs3 rfl rfl rfl rfl rfl rfl rfl rfl ?_
        intro g5
        refine WpL.nil ⟨rfl, rfl, ?_⟩
        apply Xe [⟨7, 54, _, [5, 6], false⟩] [0, 1, 5] [5, 7] [56, 57] [56, 57, 47, 48] (.inl ⟨_, by repeat' constructor⟩) rfl rfl rfl (by kernel_rfl) rfl (by kernel_rfl) rfl rfl
        ·refine Qp 7 [5, 6] rfl rfl rfl rfl (by kernel_rfl) rfl ?_ ?_
         ·refine Qh rfl rfl (by repeat' constructor) (GoodPx3_spec [_] _ _ [_, _, 0] C M rds_blk3 (by simp only [List.mem_cons, List.not_mem_nil, or_false]; rintro x (rfl | rfl | rfl) <;> omega) (by simp only [List.length_cons, List.length_nil]; omega) hC hM.1 hM.2) ?_
          rintro _ _ ⟨rfl, rfl⟩
          simp only [Qr]
          exact WpL.nil ⟨rfl, rfl, rfl, by exact Ent.refl _⟩
         exact AllF.nil
        ·refine Yb rfl rfl rfl rfl ?_
         intro g6
         refine WpL.nil ⟨rfl, rfl, ?_⟩
         apply Xe [] [0, 1] [0, 1] [57] [57] (.inl ⟨_, by repeat' constructor⟩) rfl rfl rfl (by kernel_rfl) rfl (by kernel_rfl) rfl rfl
         ·exact AllF.nil
         ·(refine XA rfl rfl rfl (by repeat' constructor) (by rfl) (by rfl) (by rfl) (by rfl) (by omega) (by omega) ?_; intro a56 c56; rw [pxs_snoc, show out.length + 1 = (out ++ [(Xx ((([QX (zs[((k : Int) % zs.length).toNat]'hix) 3, QX (zs[((k : Int) % zs.length).toNat]'hix) 3 / 2, 0] : List Int).take C.toNat).map (fun x => QX x (M + 1)))).1]).length from by simp])
          refine WpL.nil ⟨rfl, rfl, ?_⟩
          apply Xe [⟨10, 57, _, [0, 1, 2, 3, 4, 5, 6, 7, 8, 9], false⟩] [] [10] [] [] (.inr rfl) rfl rfl rfl (by kernel_rfl) rfl (by kernel_rfl) rfl rfl
          ·refine Qp 10 [0, 1, 2, 3, 4, 5, 6, 7, 8, 9] rfl rfl rfl rfl (by kernel_rfl) rfl ?_ ?_
           ·exact Qj (o2 := 2) rfl rfl rfl (Qm rfl)
           exact AllF.nil
          ·refine Q3 rfl rfl rfl (WpL.nil ⟨rfl, rfl, ?_⟩)
           apply X7 [] 12 (by kernel_rfl) (.inr rfl) rfl rfl
           ·exact AllF.nil
           ·refine Qa (Qc rfl rfl (QD rfl rfl rfl (Qu (by omega) (by omega)) ?_))
            refine Qe rfl rfl (WpL.nil (Qv (⟨k + 1, out ++ [(Xx ((([QX (zs[((k : Int) % zs.length).toNat]'hix) 3, QX (zs[((k : Int) % zs.length).toNat]'hix) 3 / 2, 0] : List Int).take C.toNat).map (fun x => QX x (M + 1)))).1], a56, c56⟩ : GdX) ?_ ?_ (by exact Top.le (by repeat (first | exact FrLe.nil | refine FrLe.cons rfl ?_))) (by repeat (first | exact FrLe.nil | refine FrLe.cons rfl ?_)) ?_))
            ·refine ⟨by simp only; omega, by simp; omega, ?_⟩
             intro p hp
             rcases List.mem_append.1 hp with hp | hp
             ·exact hcan p hp
             ·have := List.mem_singleton.1 hp
              subst this
              exact gx_good hC hM
            ·simp only; omega
            ·exact Take.ent' (by repeat' constructor)
     ·refine Wp.skip (Qb (Qa (Qc rfl rfl (Qh rfl rfl (by repeat' constructor) (Ys _ _ (by omega) (by omega) (by omega)) ?_))))
      rintro _ _ ⟨rfl, rfl⟩
      simp only [Qr]
      refine Qe rfl rfl (WpL.nil (QO (gr := [(0, _), (1, _), (2, _), (4, _), (5, _), (6, _), (7, _), (9, _)]) (FrLe.cons rfl (FrLe.cons rfl (FrLe.cons rfl (FrLe.cons rfl (FrLe.cons rfl (FrLe.cons rfl (FrLe.cons rfl (FrLe.cons rfl FrLe.nil)))))))) ?_))
      apply X8 (fB := [QA gM [.int .i64 (1 + QX w most), .int .i64 (1 + QX h most), .slice a out.length c] 69, QA gF [.int .i64 C, .int .i64 M] 48]) [0, 1, 2, 3, 4, 6, 5, 7, 8, 9, 10, 11] [47, 48, 49, 50, 51, 53, 52, 54, 55, 56, 57] 12 mixed (by kernel_rfl) [(6, false), (1, false), (0, false), (1, false)] (by kernel_rfl) (by kernel_rfl) (by kernel_rfl)
      apply Xe [⟨0, 47, _, [], true⟩, ⟨1, 48, _, [0], true⟩, ⟨2, 49, _, [], false⟩, ⟨3, 50, _, [], false⟩, ⟨4, 51, _, [3], false⟩, ⟨5, 53, _, [], true⟩] [] [2, 3, 4] [54, 55, 56, 57] [54, 55, 56, 57, 47, 48, 53] (.inl ⟨_, by repeat' constructor⟩) rfl rfl rfl (by kernel_rfl) rfl (by kernel_rfl) rfl rfl
      ·refine Qw 0 [] rfl rfl rfl rfl (by kernel_rfl) rfl ?_ ?_
       ·exact Qj (o2 := 2) rfl rfl rfl (Qm rfl)
       refine Qw 1 [0] rfl rfl rfl rfl (by kernel_rfl) rfl ?_ ?_
       ·refine Qo rfl rfl (by rfl) ?_
        exact Qm rfl
       refine Qp 2 [] rfl rfl rfl rfl (by kernel_rfl) rfl ?_ ?_
       ·exact Qc rfl rfl (Qm rfl)
       refine Qp 3 [] rfl rfl rfl rfl (by kernel_rfl) rfl ?_ ?_
       ·exact Qc rfl rfl (Qm rfl)
       refine Qp 4 [3] rfl rfl rfl rfl (by kernel_rfl) rfl ?_ ?_
       ·refine ZG rfl rfl rfl (by omega) (by omega) (Qu (by omega) (by omega)) ?_
        exact Qm rfl
       refine Qw 5 [] rfl rfl rfl rfl (by kernel_rfl) rfl ?_ ?_
       ·refine QI (vs := [_, _]) rfl rfl rfl (by rfl) ?_
        exact Qm rfl
       exact AllF.nil
      ·refine s_bs3 rfl rfl rfl rfl rfl rfl rfl rfl ?_
       intro g7
       refine WpL.nil ⟨rfl, rfl, ?_⟩
       apply Xe [⟨7, 54, _, [5, 6], false⟩] [0, 1, 5] [5, 7] [56, 57] [56, 57, 47, 48] (.inl ⟨_, by repeat' constructor⟩) rfl rfl rfl (by kernel_rfl) rfl (by kernel_rfl) rfl rfl
       ·refine Qp 7 [5, 6] rfl rfl rfl rfl (by kernel_rfl) rfl ?_ ?_
        ·refine Qh rfl rfl (by repeat' constructor) (GoodPx3_spec [_] _ _ [_, _, 0] C M rds_blk3 (by simp only [List.mem_cons, List.not_mem_nil, or_false]; rintro x (rfl | rfl | rfl) <;> omega) (by simp only [List.length_cons, List.length_nil]; omega) hC hM.1 hM.2) ?_
         rintro _ _ ⟨rfl, rfl⟩
         simp only [Qr]
         exact WpL.nil ⟨rfl, rfl, rfl, by exact Ent.refl _⟩
        exact AllF.nil
       ·refine Yb rfl rfl rfl rfl ?_
        intro g8
        refine WpL.nil ⟨rfl, rfl, ?_⟩
        apply Xe [] [0, 1] [0, 1] [57] [57] (.inl ⟨_, by repeat' constructor⟩) rfl rfl rfl (by kernel_rfl) rfl (by kernel_rfl) rfl rfl
        ·exact AllF.nil
        ·(refine XA rfl rfl rfl (by repeat' constructor) (by rfl) (by rfl) (by rfl) (by rfl) (by omega) (by omega) ?_; intro a56 c56; rw [pxs_snoc, show out.length + 1 = (out ++ [(Xx ((([QX 0 3, QX 0 3 / 2, 0] : List Int).take C.toNat).map (fun x => QX x (M + 1)))).1]).length from by simp])
         refine WpL.nil ⟨rfl, rfl, ?_⟩
         apply Xe [⟨10, 57, _, [0, 1, 2, 3, 4, 5, 6, 7, 8, 9], false⟩] [] [10] [] [] (.inr rfl) rfl rfl rfl (by kernel_rfl) rfl (by kernel_rfl) rfl rfl
         ·refine Qp 10 [0, 1, 2, 3, 4, 5, 6, 7, 8, 9] rfl rfl rfl rfl (by kernel_rfl) rfl ?_ ?_
          ·exact Qj (o2 := 2) rfl rfl rfl (Qm rfl)
          exact AllF.nil
         ·refine Q3 rfl rfl rfl (WpL.nil ⟨rfl, rfl, ?_⟩)
          apply X7 [] 12 (by kernel_rfl) (.inr rfl) rfl rfl
          ·exact AllF.nil
          ·refine Qa (Qc rfl rfl (QD rfl rfl rfl (Qu (by omega) (by omega)) ?_))
           refine Qe rfl rfl (WpL.nil (Qv (⟨k + 1, out ++ [(Xx ((([QX 0 3, QX 0 3 / 2, 0] : List Int).take C.toNat).map (fun x => QX x (M + 1)))).1], a56, c56⟩ : GdX) ?_ ?_ (by exact Top.le (by repeat (first | exact FrLe.nil | refine FrLe.cons rfl ?_))) (by repeat (first | exact FrLe.nil | refine FrLe.cons rfl ?_)) ?_))
           ·refine ⟨by simp only; omega, by simp; omega, ?_⟩
            intro p hp
            rcases List.mem_append.1 hp with hp | hp
            ·exact hcan p hp
            ·have := List.mem_singleton.1 hp
             subst this
             exact gx_good hC hM
           ·simp only; omega
           ·exact Take.ent' (by repeat' constructor)
    ·refine QM (Qb (Qa ?_))
     refine QI (vs := [_, _]) rfl rfl rfl (by rfl) ?_
     refine QI (vs := [_, _, _]) rfl rfl rfl (by rfl) ?_
     refine YI rfl rfl ?_
     refine XL rfl rfl rfl (by rfl) rfl ?_
     refine WpL.nil (Qi ?_)
     apply RetQ.mk
     ·exact (XO rfl rfl (by rfl))
     ·exact ⟨⟨C, M, (1 + QX w most), (1 + QX h most), out⟩, a, c, ⟨hC, hM, by simp only; omega, by simp only; omega, by simp only; omega, hcan⟩, rfl, rfl⟩
     ·exact Take.ent' (by repeat' constructor)

end Go.Proofs.YtggamdlpiejbiaaGreat
namespace Go.Proofs.YtggamdlpiejbiaaGreat
open Go.RowKit Go.Shelf


/-- What an image is made of, as it lies. -/
structure GS where
  (three : Bool) (mx w h : Int) (a : Option Addr) (c : Nat) (zs : List Int)
def gC (g : GS) : List Value := [.bool g.three, .int .i64 g.mx, .int .i64 g.w, .int .i64 g.h, .slice g.a g.zs.length g.c]
def GsOk (A0 : HP) (gs : List GS) : Prop := ∀ g ∈ gs, (∀ x ∈ g.zs, -9223372036854775808 ≤ x ∧ x < 9223372036854775808) ∧ g.zs.length ≤ 9223372036854775807 ∧ RdsL [A0] g.a (QY g.zs) ∧ (-9223372036854775808 ≤ g.mx ∧ g.mx < 9223372036854775808) ∧ (-9223372036854775808 ≤ g.w ∧ g.w < 9223372036854775808) ∧ (-9223372036854775808 ≤ g.h ∧ g.h < 9223372036854775808)
structure GeX where
  (k : Nat) (out : List Img) (a : Option Addr) (c : Nat)
theorem gC_ne {gs : List GS} (h : 0 < gs.length) : gs.flatMap gC ≠ [] := by
  cases gs with
  | nil => simp at h
  | cons g t => simp [gC]

theorem rGood11_spec (A0 : HP) (ga : Option Addr) (gc : Nat) (gs : List GS) (hgl : gs.length ≤ 9223372036854775807) (hG : RdsL [A0] ga (gs.flatMap gC)) (hgs : GsOk A0 gs) (most : Int) (hmo : 1 ≤ most ∧ most ≤ 100) : Fn Tryz.prog 25 #[.slice ga gs.length gc, .int .i64 most] [A0] (fun v l => ∃ out a c, (∀ m ∈ out, YG most m) ∧ out.length ≤ 3 ∧ v = .slice a out.length c ∧ l = [imR a c out, A0]) := by
 refine Qk (vs := [.slice ga gs.length gc, .int .i64 most]) Tryz.func25 rfl Tryz.ntmps25 rfl (Qb (Qa (Qe rfl rfl (WpL.nil (Qb (Qa (Qe rfl rfl (WpL.nil (Qb (Qb (Qa (Qe rfl rfl ?_))))))))))))
 refine WpL.nil (Wp.block ?_)
 refine Wp.loopD (σ := GeX) (fun x => x.k ≤ gs.length ∧ x.k ≤ 3 ∧ x.out.length = x.k ∧ ∀ m ∈ x.out, YG most m) [5, 6, 7, 8, 9, 10, 11, 12, 13, 14, 15, 16, 17, 18, 19, 20, 21, 22, 23, 24, 25] (fun x => [(6, .int .i64 (x.k : Int)), (5, .slice x.a x.out.length x.c)]) (fun x => [imR x.a x.c x.out, A0]) (fun x => gs.length - x.k) ⟨0, [], none, 0⟩ ?_ (by repeat (first | exact FrLe.nil | refine FrLe.cons rfl ?_)) ?_ ?_
 ·exact ⟨Nat.zero_le _, by simp, rfl, by simp⟩
 ·exact Ent.rcNil (Ent.refl _)
 ·rintro ⟨k, out, a, c⟩ ⟨hk, hk3, hol, hgo⟩
  dsimp only at hk hk3 hol hgo ⊢
  refine Qb (Qb (Qa (Qc rfl rfl (Qc rfl rfl (QC rfl rfl (Q7 rfl rfl rfl (Qc rfl rfl (QK rfl rfl rfl (fun hg1 => ?_) (fun hg1 => ?_)))))))))
  ·have hg1 := of_decide_eq_true hg1
   refine Qc rfl rfl (Qf rfl rfl (Q7 rfl rfl rfl (Qt rfl rfl rfl (WpL.nil (Ql rfl (fun h1 => ?_) (fun h1 => ?_))))))
   ·have hlt : k < gs.length := by omega
    have hlt3 : k < 3 := by omega
    obtain ⟨hz, hzl, hzA, hmx, hgw, hgh⟩ := hgs _ (List.getElem_mem hlt)
    refine Wp.skip (Qb (Wp.block ?_))
    refine Qa (Qc rfl rfl (Qc rfl rfl (Qc rfl rfl (Zp (s := 5) k rfl rfl rfl hG (by exact Take.ent' (by repeat' constructor)) rfl (by omega) (gC_ne (by omega)) ?_))))
    refine ZU (vs := gC gs[k]) rfl rfl hG (by exact Take.ent' (by repeat' constructor)) (gC_ne (by omega)) rfl (Zf (s := 5) (f := gC) (fun _ => rfl) gs k hlt) ?_
    refine Qc rfl rfl (Qh rfl rfl (by repeat' constructor) (rGood10_spec A0 gs[k].three gs[k].mx gs[k].w gs[k].h gs[k].a gs[k].c gs[k].zs hz hzl hzA hmx hgw hgh most hmo) ?_)
    rintro _ _ ⟨m, am, cm, hgm, rfl, rfl⟩
    simp only [Qr]
    refine Vi rfl rfl (by rfl) (by rfl) (by rfl) (by rfl) ?_
    intro g1
    refine s_apR1 (m) rfl rfl rfl (by repeat' constructor) rfl (by rfl) (by rfl) (by rfl) (by rfl) (by omega) (by omega) ?_
    intro a25 c25
    refine Qe rfl rfl (WpL.nil (Qa (Qc rfl rfl (QD rfl rfl rfl (Qu (by omega) (by omega)) ?_))))
    refine Qe rfl rfl (WpL.nil (Qv (⟨k + 1, out ++ [m], a25, c25⟩ : GeX) ?_ ?_ (by ((repeat (first | exact Top.refl | refine Top.push rfl ?_)); done)) (by repeat (first | exact FrLe.nil | refine FrLe.cons rfl ?_)) ?_))
    ·refine ⟨by simp only; omega, by simp only; omega, by simp; omega, ?_⟩
     intro q hq
     rcases List.mem_append.1 hq with hq | hq
     ·exact hgo q hq
     ·rw [List.mem_singleton.1 hq]; exact hgm
    ·simp only; omega
    ·exact Ent.refl _
   ·refine QM (Qb (Qa (Qc rfl rfl (Qe rfl rfl (WpL.nil (Qi ?_))))))
    apply RetQ.mk
    ·exact (Res.one rfl rfl)
    ·exact ⟨out, a, c, hgo, by omega, rfl, rfl⟩
    ·exact Ent.refl _
  ·have hg1 := of_decide_eq_false hg1
   refine Qd rfl rfl rfl (by decide) (Qs rfl rfl rfl (WpL.nil (QZ rfl (QM (Qb (Qa (Qc rfl rfl (Qe rfl rfl (WpL.nil (Qi ?_))))))))))
   apply RetQ.mk
   ·exact (Res.one rfl rfl)
   ·exact ⟨out, a, c, hgo, by omega, rfl, rfl⟩
   ·exact Ent.refl _

end Go.Proofs.YtggamdlpiejbiaaGreat
namespace Go.Proofs.YtggamdlpiejbiaaGreat
open Go.ChangeShapes Go.WideShapes Go.ChangeAt Go.RowKit Go.Shelf

def GsOk1 (A0 : HP) (g : GS) : Prop := (∀ x ∈ g.zs, -9223372036854775808 ≤ x ∧ x < 9223372036854775808) ∧ g.zs.length ≤ 9223372036854775807 ∧ RdsL [A0] g.a (QY g.zs) ∧ (-9223372036854775808 ≤ g.mx ∧ g.mx < 9223372036854775808) ∧ (-9223372036854775808 ≤ g.w ∧ g.w < 9223372036854775808) ∧ (-9223372036854775808 ≤ g.h ∧ g.h < 9223372036854775808)
theorem open_G {H : Type} {enc : TypeId × Value → H} {W : World} {sp : Nat → Bool} {held : Bool} {fuel : Nat} {cs : List Value} {x : DataW H × List MemPlace} (h : DataW.trod enc Tryz.prog W 0 sp held fuel 74 cs = some x) : ∃ g : GS, cs = gC g ∧ GsOk1 (oldW W) g := by
  obtain ⟨xs, n, rfl, rfl, hl, hxl, hf⟩ := DataW.trod_struct Tryz.underlying74 h
  rw [show Tryz.prog.cellsOf 74 = 5 by kernel_rfl] at hl
  obtain ⟨c0, c1, c2, c3, c4, rfl⟩ := len5 hl
  have f0 : DataW.trod enc Tryz.prog W 0 sp held n 4 (([c0, c1, c2, c3, c4].drop 0).take (Tryz.prog.cellsOf 4)) = xs[0]? := hf 0 _ rfl
  rw [show Tryz.prog.cellsOf 4 = 1 by kernel_rfl, List.getElem?_eq_getElem (show 0 < xs.length by rw [hxl]; decide)] at f0
  change DataW.trod enc Tryz.prog W 0 sp held n 4 [c0] = _ at f0
  have f1 : DataW.trod enc Tryz.prog W 0 sp held n 3 (([c0, c1, c2, c3, c4].drop 1).take (Tryz.prog.cellsOf 3)) = xs[1]? := hf 1 _ rfl
  rw [show Tryz.prog.cellsOf 3 = 1 by kernel_rfl, List.getElem?_eq_getElem (show 1 < xs.length by rw [hxl]; decide)] at f1
  change DataW.trod enc Tryz.prog W 0 sp held n 3 [c1] = _ at f1
  have f2 : DataW.trod enc Tryz.prog W 0 sp held n 3 (([c0, c1, c2, c3, c4].drop 2).take (Tryz.prog.cellsOf 3)) = xs[2]? := hf 2 _ rfl
  rw [show Tryz.prog.cellsOf 3 = 1 by kernel_rfl, List.getElem?_eq_getElem (show 2 < xs.length by rw [hxl]; decide)] at f2
  change DataW.trod enc Tryz.prog W 0 sp held n 3 [c2] = _ at f2
  have f3 : DataW.trod enc Tryz.prog W 0 sp held n 3 (([c0, c1, c2, c3, c4].drop 3).take (Tryz.prog.cellsOf 3)) = xs[3]? := hf 3 _ rfl
  rw [show Tryz.prog.cellsOf 3 = 1 by kernel_rfl, List.getElem?_eq_getElem (show 3 < xs.length by rw [hxl]; decide)] at f3
  change DataW.trod enc Tryz.prog W 0 sp held n 3 [c3] = _ at f3
  have f4 : DataW.trod enc Tryz.prog W 0 sp held n 26 (([c0, c1, c2, c3, c4].drop 4).take (Tryz.prog.cellsOf 26)) = xs[4]? := hf 4 _ rfl
  rw [show Tryz.prog.cellsOf 26 = 1 by kernel_rfl, List.getElem?_eq_getElem (show 4 < xs.length by rw [hxl]; decide)] at f4
  change DataW.trod enc Tryz.prog W 0 sp held n 26 [c4] = _ at f4
  obtain ⟨b0, e0, _⟩ := DataW.trod_bool Tryz.underlying4 f0
  obtain rfl : c0 = _ := by simpa using e0
  obtain ⟨z1, e1, _, w1⟩ := DataW.trod_int Tryz.underlying3 f1
  obtain rfl : c1 = _ := by simpa using e1
  have b1 := wf_i64 w1
  obtain ⟨z2, e2, _, w2⟩ := DataW.trod_int Tryz.underlying3 f2
  obtain rfl : c2 = _ := by simpa using e2
  have b2 := wf_i64 w2
  obtain ⟨z3, e3, _, w3⟩ := DataW.trod_int Tryz.underlying3 f3
  obtain rfl : c3 = _ := by simpa using e3
  have b3 := wf_i64 w3
  obtain ⟨a4, n4, k4, zs4, e4, hzl4, hnk4, hkm4, hz4, hr4⟩ := open_nums Tryz.underlying26 Tryz.underlying3 (by kernel_rfl) f4
  obtain rfl : c4 = _ := by simpa using e4
  subst hzl4
  have b4 : ∀ x ∈ zs4, _ := fun x hx => wf_i64 (hz4 x hx)
  have m4 : zs4.length ≤ 9223372036854775807 := by unfold maxLen at hkm4; omega
  exact ⟨⟨b0, z1, z2, z3, a4, k4, zs4⟩, rfl, ⟨b4, m4, hr4, b1, b2, b3⟩⟩
end Go.Proofs.YtggamdlpiejbiaaGreat
namespace Go.Proofs.YtggamdlpiejbiaaGreat
open Go.RowKit Go.Shelf


/-- The kinds that may tell a format. -/
def kP (C M : Int) (k : Nat) : Bool := decide (1 ≤ k) && decide (((k : Int) % 3 = 0 ↔ C = 3) ∧ ((k : Int) % 3 ≠ 1 ∨ M = 1))
def kUp (C M : Int) (k : Nat) : List Int := ((List.range k).filter (kP C M)).map fun i : Nat => (i : Int)
theorem kUp_y {C M : Int} {k : Nat} (h : kP C M k = true) : kUp C M (k + 1) = kUp C M k ++ [(k : Int)] := by unfold kUp; rw [List.range_succ, List.filter_append, List.map_append]; simp [h]
theorem kUp_n {C M : Int} {k : Nat} (h : kP C M k = false) : kUp C M (k + 1) = kUp C M k := by unfold kUp; rw [List.range_succ, List.filter_append, List.map_append]; simp [h]
theorem kUp_one {C M : Int} : kUp C M 1 = [] := by unfold kUp kP; simp [List.range_succ]
theorem kUp_len {C M : Int} {k : Nat} : (kUp C M k).length ≤ k := by
  unfold kUp
  rw [List.length_map]
  exact Nat.le_trans (List.length_filter_le _ _) (by rw [List.length_range]; exact Nat.le_refl _)
def QJ (C M : Int) : List Int := if YF C M then kUp C M 7 else []
structure KdX where
  (k : Nat) (out : List Int) (a : Option Addr) (c : Nat)

theorem rKinds10_spec (C M : Int) : Fn Tryz.prog 36 #[.agg #[.int .i64 C, .int .i64 M]] [] (fun v l => ∃ a c, v = .slice a (QJ C M).length c ∧ l = [QG 3 1 a c (QJ C M).length (QY (QJ C M))]) := by
 refine Qk (vs := [.agg #[.int .i64 C, .int .i64 M]]) Tryz.func36 rfl Tryz.ntmps36 rfl (Qb (Qa (Q9 rfl rfl rfl ?_)))
 intro gF
 refine Qe rfl rfl (WpL.nil (Qb (Qa ?_)))
 refine QI (vs := [_, _]) rfl rfl rfl (by rfl) ?_
 refine Qh rfl rfl (by repeat' constructor) (rFormat1_spec _ _) ?_
 rintro _ _ ⟨rfl, rfl⟩
 simp only [Qr]
 refine Qe rfl rfl (WpL.nil (Qb (Qb (Qa (Qc rfl rfl (XN rfl rfl (WpL.nil (Ql rfl (fun h0 => ?_) (fun h0 => ?_)))))))))
 ·refine Qb (Qa (Qe rfl rfl (WpL.nil (Qi ?_))))
  apply RetQ.mk
  ·exact (Res.one rfl rfl)
  ·exact ⟨none, 0, by rw [QJ, if_neg (by assumption)]; rfl, rfl⟩
  ·rw [show QJ C M = [] from if_neg (by assumption)]
   exact Ent.own_nil (Ent.nil _)
 ·refine Wp.skip (Qb (Qa (Qe rfl rfl (WpL.nil (Qb (Qb (Qa (Qe rfl rfl (WpL.nil (Wp.block ?_))))))))))
  refine Wp.loopD (σ := KdX) (fun x => 1 ≤ x.k ∧ x.k ≤ 7 ∧ x.out = kUp C M x.k) [4, 5, 10, 11, 12, 13, 14, 15, 16, 17, 18, 19, 20, 21, 22, 23, 24, 25, 26, 27, 28, 29, 30, 31, 32, 33, 34] (fun x => [(5, .int .i64 (x.k : Int)), (4, .slice x.a x.out.length x.c)]) (fun x => [QG 3 1 x.a x.c x.out.length (QY x.out), QA gF [.int .i64 C, .int .i64 M] 48]) (fun x => 7 - x.k) ⟨1, [], none, 0⟩ ?_ (by repeat (first | exact FrLe.nil | refine FrLe.cons rfl ?_)) ?_ ?_
  ·exact ⟨Nat.le_refl _, by simp, kUp_one.symm⟩
  ·exact Ent.own_nil (Ent.refl _)
  ·rintro ⟨k, out, a, c⟩ ⟨hk1, hk7, ho⟩
   dsimp only at hk1 hk7 ho ⊢
   have hkl := kUp_len (C := C) (M := M) (k := k)
   rw [← ho] at hkl
   refine Qb (Qb (Qa (Qc rfl rfl (s_le rfl rfl rfl (WpL.nil (Ql rfl (fun h2 => ?_) (fun h2 => ?_)))))))
   ·refine Wp.skip (Qb (Wp.block ?_))
    refine Qb (Qa (Qc rfl rfl (YV rfl rfl rfl (by omega) (by omega) ?_)))
    refine QN rfl rfl rfl (Qj (o2 := 0) rfl rfl rfl (Qo rfl rfl (by rfl) ?_))
    refine QN rfl rfl rfl (s_beq rfl Tryz.underlying4 rfl rfl (Qc rfl rfl (QK rfl rfl rfl (fun hg1 => ?_) (fun hg1 => ?_))))
    ·refine Qc rfl rfl (Qf rfl rfl (YV rfl rfl rfl (by omega) (by omega) ?_))
     refine Qf rfl rfl (Xn rfl rfl rfl (Qf rfl rfl (Qc rfl rfl (QK rfl rfl rfl (fun hg2 => ?_) (fun hg2 => ?_)))))
     ·have hg2 := of_decide_eq_false hg2
      refine Qj (o2 := 1) rfl rfl rfl (Qf rfl rfl (Qo rfl rfl (by rfl) ?_))
      refine Qf rfl rfl (QN rfl rfl rfl (Qf rfl rfl (Qs rfl rfl rfl (Qt rfl rfl rfl (WpL.nil (Ql rfl (fun h3 => ?_) (fun h3 => ?_)))))))
      ·refine Qa (Qc rfl rfl (Qc rfl rfl ?_))
       refine Yb rfl rfl rfl rfl ?_
       intro g2
       refine XA rfl rfl rfl (by repeat' constructor) (by rfl) (by rfl) (by rfl) (by rfl) (by omega) (by omega) ?_
       intro a34 c34
       rw [Yz, show out.length + 1 = (out ++ [(k : Int)]).length from by simp]
       refine Qe rfl rfl (WpL.nil (Qa (Qc rfl rfl (QD rfl rfl rfl (Qu (by omega) (by omega)) ?_))))
       refine Qe rfl rfl (WpL.nil (Qv (⟨k + 1, out ++ [(k : Int)], a34, c34⟩ : KdX) ?_ ?_ (by ((repeat (first | exact Top.refl | refine Top.push rfl ?_)); done)) (by repeat (first | exact FrLe.nil | refine FrLe.cons rfl ?_)) ?_))
       ·simp only [beq_iff_eq, decide_eq_decide] at hg1
        exact ⟨by simp only; omega, by simp only; omega, by simp only; rw [kUp_y (by unfold kP; simp only [Bool.and_eq_true, decide_eq_true_eq]; omega), ho]⟩
       ·simp only; omega
       ·exact Ent.refl _
      ·refine Wp.skip (Qa (Qc rfl rfl (QD rfl rfl rfl (Qu (by omega) (by omega)) ?_)))
       refine Qe rfl rfl (WpL.nil (Qv (⟨k + 1, out, a, c⟩ : KdX) ?_ ?_ (by ((repeat (first | exact Top.refl | refine Top.push rfl ?_)); done)) (by repeat (first | exact FrLe.nil | refine FrLe.cons rfl ?_)) ?_))
       ·simp only [beq_iff_eq, decide_eq_decide] at hg1
        exact ⟨by simp only; omega, by simp only; omega, by simp only; rw [kUp_n (by rw [Bool.eq_false_iff]; unfold kP; simp only [ne_eq, Bool.and_eq_true, decide_eq_true_eq]; omega), ho]⟩
       ·simp only; omega
       ·exact Ent.refl _
     ·have hg2 := of_decide_eq_true hg2
      refine Qd rfl rfl rfl (by decide) (Qd rfl rfl rfl (by decide) (Qf rfl rfl (Qt rfl rfl rfl (Qt rfl rfl rfl (WpL.nil (Xc rfl (Qa (Qc rfl rfl (Qc rfl rfl ?_)))))))))
      refine Yb rfl rfl rfl rfl ?_
      intro g3
      refine XA rfl rfl rfl (by repeat' constructor) (by rfl) (by rfl) (by rfl) (by rfl) (by omega) (by omega) ?_
      intro a34 c34
      rw [Yz, show out.length + 1 = (out ++ [(k : Int)]).length from by simp]
      refine Qe rfl rfl (WpL.nil (Qa (Qc rfl rfl (QD rfl rfl rfl (Qu (by omega) (by omega)) ?_))))
      refine Qe rfl rfl (WpL.nil (Qv (⟨k + 1, out ++ [(k : Int)], a34, c34⟩ : KdX) ?_ ?_ (by ((repeat (first | exact Top.refl | refine Top.push rfl ?_)); done)) (by repeat (first | exact FrLe.nil | refine FrLe.cons rfl ?_)) ?_))
      ·simp only [beq_iff_eq, decide_eq_decide] at hg1
       exact ⟨by simp only; omega, by simp only; omega, by simp only; rw [kUp_y (by unfold kP; simp only [Bool.and_eq_true, decide_eq_true_eq]; omega), ho]⟩
      ·simp only; omega
      ·exact Ent.refl _
    ·refine Qd rfl rfl rfl (by decide) (Qd rfl rfl rfl (by decide) (Qd rfl rfl rfl (by decide) (Xb rfl rfl rfl (Xb rfl rfl rfl (Xb rfl rfl rfl (Qd rfl rfl rfl (by decide) (Qs rfl rfl rfl (WpL.nil (QZ rfl (Wp.skip (Qa (Qc rfl rfl ?_))))))))))))
     refine QD rfl rfl rfl (Qu (by omega) (by omega)) ?_
     refine Qe rfl rfl (WpL.nil (Qv (⟨k + 1, out, a, c⟩ : KdX) ?_ ?_ (by ((repeat (first | exact Top.refl | refine Top.push rfl ?_)); done)) (by repeat (first | exact FrLe.nil | refine FrLe.cons rfl ?_)) ?_))
     ·simp only [Bool.not_true, beq_eq_false_iff_ne, ne_eq, decide_eq_decide] at hg1
      exact ⟨by simp only; omega, by simp only; omega, by simp only; rw [kUp_n (by rw [Bool.eq_false_iff]; unfold kP; simp only [ne_eq, Bool.and_eq_true, decide_eq_true_eq]; omega), ho]⟩
     ·simp only; omega
     ·exact Ent.refl _
   ·have ho2 : out = QJ C M := by rw [QJ, if_pos (Classical.not_not.1 h0), ho, show k = 7 by omega]
    subst ho2
    refine QM (Qb (Qa (Qc rfl rfl (Qe rfl rfl (WpL.nil (Qi ?_))))))
    apply RetQ.mk
    ·exact (Res.one rfl rfl)
    ·exact ⟨a, c, rfl, rfl⟩
    ·exact Take.ent' (by repeat' constructor)

end Go.Proofs.YtggamdlpiejbiaaGreat
namespace Go.Proofs.YtggamdlpiejbiaaGreat
open Go.RowKit Go.Shelf


def iC (r : Img × Option Addr × Nat) : List Value := imC r.1 r.2.1 r.2.2
instance : FOffA Tryz.prog 71 0 0 := ⟨fun _ _ => by kernel_rfl⟩
theorem iC_ne {L : List (Img × Option Addr × Nat)} (h : 0 < L.length) : L.flatMap iC ≠ [] := by
  cases L with
  | nil => simp at h
  | cons g t => simp [iC, imC]
theorem kinds_pos {C M : Int} (h : YF C M) : 0 < (QJ C M).length := by
  rw [QJ, if_pos h]
  apply List.length_pos_of_mem (a := if C = 3 then 3 else 2)
  unfold kUp
  rcases h.1 with rfl | rfl
  · exact List.mem_map.2 ⟨2, List.mem_filter.2 ⟨by decide, by unfold kP; simp⟩, rfl⟩
  · exact List.mem_map.2 ⟨3, List.mem_filter.2 ⟨by decide, by unfold kP; simp⟩, rfl⟩
theorem kinds_len {C M : Int} : (QJ C M).length ≤ 7 := by
  unfold QJ
  split
  · exact kUp_len
  · simp
/-- Kinds that may tell these. -/
def KindsOk : List Img → List Int → Prop
  | [], [] => True
  | m :: ms, k :: ks => k ∈ QJ m.c m.m ∧ KindsOk ms ks
  | _, _ => False
theorem Z9 {m : Img} {k : Int} (hk : k ∈ QJ m.c m.m) : ∀ {ms : List Img} {ks : List Int}, KindsOk ms ks → KindsOk (ms ++ [m]) (ks ++ [k])
  | [], [], _ => ⟨hk, trivial⟩
  | _ :: _, _ :: _, ⟨h1, h2⟩ => ⟨h1, Z9 hk h2⟩
theorem KindsOk.len : ∀ {ms : List Img} {ks : List Int}, KindsOk ms ks → ms.length = ks.length
  | [], [], _ => rfl
  | _ :: _, _ :: _, ⟨_, h2⟩ => by rw [List.length_cons, List.length_cons, KindsOk.len h2]
theorem KindsOk.get : ∀ {ms : List Img} {ks : List Int}, KindsOk ms ks → ∀ (i : Nat) (h1 : i < ms.length) (h2 : i < ks.length), ks[i] ∈ QJ ms[i].c ms[i].m
  | _ :: _, _ :: _, ⟨h, _⟩, 0, _, _ => h
  | _ :: _, _ :: _, ⟨_, h⟩, i + 1, h1, h2 => KindsOk.get h i (by simpa using h1) (by simpa using h2)
theorem Yj {α : Type} (l : List α) {k : Nat} (h : k < l.length) : l.take (k + 1) = l.take k ++ [l[k]] := by
  rw [List.take_add_one, List.getElem?_eq_getElem h]
  rfl
theorem tmod_ix {z : Int} {n : Nat} (h : 0 < n) (h7 : n ≤ 7) : (max (z.tmod n) (-(z.tmod n))).toNat < n ∧ 0 ≤ max (z.tmod n) (-(z.tmod n)) ∧ -9223372036854775808 ≤ -(z.tmod n) ∧ -(z.tmod n) ≤ n ∧ z.tmod n < n := by
  have h1 := Int.tmod_lt_of_pos z (show (0 : Int) < n by omega)
  have h2 := Int.tmod_lt_of_pos (-z) (show (0 : Int) < n by omega)
  rw [Int.neg_tmod] at h2
  omega

theorem rKinds11_spec (As : List HP) (la : Option Addr) (lc : Nat) (L : List (Img × Option Addr × Nat)) (hL : RdsL As la (L.flatMap iC)) (hf : ∀ r ∈ L, YF r.1.c r.1.m) (hl : L.length ≤ 1000) (ya : Option Addr) (yc : Nat) (ys : List Int) (hy : RdsL As ya (QY ys)) (_hyl : ys.length ≤ 9223372036854775807) : Fn Tryz.prog 27 #[.slice la L.length lc, .slice ya ys.length yc] As (fun v l => ∃ ks a c, KindsOk (L.map (·.1)) ks ∧ v = .slice a ks.length c ∧ l = QG 3 1 a c ks.length (QY ks) :: As) := by
 refine Qk (vs := [.slice la L.length lc, .slice ya ys.length yc]) Tryz.func27 rfl Tryz.ntmps27 rfl (Qb (Qa (Qe rfl rfl (WpL.nil (Qb (Qa (Qe rfl rfl (WpL.nil (Qb (Qb (Qa (Qe rfl rfl ?_))))))))))))
 refine WpL.nil (Wp.block ?_)
 refine Wp.loopD (σ := KdX) (fun x => x.k ≤ L.length ∧ KindsOk ((L.take x.k).map (·.1)) x.out) [5, 6, 7, 8, 9, 10, 11, 12, 13, 14, 15, 16, 17, 18, 19, 20, 21, 22, 23, 24, 25, 26, 27, 28, 29, 30, 31, 32, 33, 34, 35, 36, 37, 38, 39, 40, 41] (fun x => [(6, .int .i64 (x.k : Int)), (5, .slice x.a x.out.length x.c)]) (fun x => QG 3 1 x.a x.c x.out.length (QY x.out) :: As) (fun x => L.length - x.k) ⟨0, [], none, 0⟩ ?_ (by repeat (first | exact FrLe.nil | refine FrLe.cons rfl ?_)) ?_ ?_
 ·exact ⟨Nat.zero_le _, trivial⟩
 ·exact Ent.own_nil (Ent.refl _)
 ·rintro ⟨k, out, a, c⟩ ⟨hk, ho⟩
  dsimp only at hk ho ⊢
  have hol : out.length = k := by rw [← ho.len, List.length_map, List.length_take]; omega
  refine Qb (Qb (Qa (Qc rfl rfl (Qc rfl rfl (QC rfl rfl (Q7 rfl rfl rfl (WpL.nil (Ql rfl (fun h1 => ?_) (fun h1 => ?_)))))))))
  ·have hlt : k < L.length := by omega
   have hkp := kinds_pos (hf _ (List.getElem_mem hlt))
   have hkl := kinds_len (C := L[k].1.c) (M := L[k].1.m)
   refine Wp.skip (Qb (Wp.block ?_))
   refine Qb (Qa (Qc rfl rfl (Qc rfl rfl (Zp (s := 5) k rfl rfl rfl hL (by (repeat (first | exact Ent.refl _ | refine Ent.drop ?_))) rfl (by omega) (iC_ne (by omega)) ?_))))
   refine ZF (k * 5 + 0) rfl rfl hL (by (repeat (first | exact Ent.refl _ | refine Ent.drop ?_))) (iC_ne (by omega)) rfl ?_
   refine ZU (vs := [.int .i64 L[k].1.c, .int .i64 L[k].1.m]) rfl rfl hL (by (repeat (first | exact Ent.refl _ | refine Ent.drop ?_))) (iC_ne (by omega)) rfl (by have q := congrArg (List.take 2) (Zf (s := 5) (f := iC) (fun _ => rfl) L k hlt); rw [List.take_take] at q; exact q) ?_
   refine Qh rfl rfl (by repeat' constructor) (rKinds10_spec _ _) ?_
   rintro _ _ ⟨a20, c20, rfl, rfl⟩
   simp only [Qr]
   refine Qe rfl rfl (WpL.nil (Qb (Qa (Qe rfl rfl (WpL.nil (Qb (Qb (Qa (Qc rfl rfl (Qc rfl rfl (QC rfl rfl (Q7 rfl rfl rfl ?_))))))))))))
   refine WpL.nil (Ql rfl (fun h2 => ?_) (fun h2 => ?_))
   ·have hly : k < ys.length := by omega
    have htm := tmod_ix (z := ys[k]) hkp hkl
    have hix := htm.1
    refine Qa (Qc rfl rfl (Qc rfl rfl (Q4 k rfl rfl rfl hy (by (repeat (first | exact Ent.refl _ | refine Ent.drop ?_))) rfl (by omega) (by rw [QT]; omega) ?_)))
    refine Q5 rfl rfl hy (by (repeat (first | exact Ent.refl _ | refine Ent.drop ?_))) (Xi ys hly) ?_
    refine Qc rfl rfl (QC rfl rfl (s_remt rfl rfl rfl (by omega) ?_))
    refine Qe rfl rfl (WpL.nil (Qa (Qc rfl rfl (Qc rfl rfl (Qc rfl rfl (Qc rfl rfl (s_neg rfl rfl (Qu (by omega) (by omega)) ?_)))))))
    refine s_max2 rfl rfl rfl (Q4 (max (ys[k].tmod (((QJ L[k].1.c L[k].1.m).length : Nat) : Int)) (-(ys[k].tmod (((QJ L[k].1.c L[k].1.m).length : Nat) : Int)))).toNat rfl rfl rfl (QE (T := 3) (s := 1)) (by exact Take.ent' (by repeat' constructor)) (by omega) hix (by rw [QT]; exact hix) ?_)
    refine Q5 rfl rfl (QE (T := 3) (s := 1)) (by exact Take.ent' (by repeat' constructor)) (Xi (QJ L[k].1.c L[k].1.m) hix) ?_
    refine Yb rfl rfl rfl rfl ?_
    intro g1
    (refine XA rfl rfl rfl (by repeat' constructor) (by rfl) (by rfl) (by rfl) (by rfl) (by omega) (by omega) ?_; intro a41 c41; rw [Yz, show out.length + 1 = (out ++ [(QJ L[k].1.c L[k].1.m)[(max (ys[k].tmod (((QJ L[k].1.c L[k].1.m).length : Nat) : Int)) (-(ys[k].tmod (((QJ L[k].1.c L[k].1.m).length : Nat) : Int)))).toNat]'hix]).length from by simp])
    refine Qe rfl rfl (WpL.nil (Qa (Qc rfl rfl (QD rfl rfl rfl (Qu (by omega) (by omega)) ?_))))
    refine Qe rfl rfl (WpL.nil (Qv (⟨k + 1, out ++ [(QJ L[k].1.c L[k].1.m)[(max (ys[k].tmod (((QJ L[k].1.c L[k].1.m).length : Nat) : Int)) (-(ys[k].tmod (((QJ L[k].1.c L[k].1.m).length : Nat) : Int)))).toNat]'hix], a41, c41⟩ : KdX) ?_ ?_ (by ((repeat (first | exact Top.refl | refine Top.push rfl ?_)); done)) (by repeat (first | exact FrLe.nil | refine FrLe.cons rfl ?_)) ?_))
    ·exact ⟨by simp only; omega, by simp only; rw [Yj L hlt, List.map_append]; exact Z9 (List.getElem_mem _) ho⟩
    ·simp only; omega
    ·exact Ent.cons (Ent.drop (Ent.refl _))
   ·have hix : (max (0 : Int) (-0)).toNat < (QJ L[k].1.c L[k].1.m).length := by simpa using hkp
    refine Wp.skip (Qa (Qc rfl rfl (Qc rfl rfl (Qc rfl rfl (Qc rfl rfl (s_neg rfl rfl (Qu (by omega) (by omega)) ?_))))))
    refine s_max2 rfl rfl rfl (Q4 (max (0 : Int) (-0)).toNat rfl rfl rfl (QE (T := 3) (s := 1)) (by exact Take.ent' (by repeat' constructor)) (by omega) hix (by rw [QT]; exact hix) ?_)
    refine Q5 rfl rfl (QE (T := 3) (s := 1)) (by exact Take.ent' (by repeat' constructor)) (Xi (QJ L[k].1.c L[k].1.m) hix) ?_
    refine Yb rfl rfl rfl rfl ?_
    intro g2
    (refine XA rfl rfl rfl (by repeat' constructor) (by rfl) (by rfl) (by rfl) (by rfl) (by omega) (by omega) ?_; intro a41 c41; rw [Yz, show out.length + 1 = (out ++ [(QJ L[k].1.c L[k].1.m)[(max (0 : Int) (-0)).toNat]'hix]).length from by simp])
    refine Qe rfl rfl (WpL.nil (Qa (Qc rfl rfl (QD rfl rfl rfl (Qu (by omega) (by omega)) ?_))))
    refine Qe rfl rfl (WpL.nil (Qv (⟨k + 1, out ++ [(QJ L[k].1.c L[k].1.m)[(max (0 : Int) (-0)).toNat]'hix], a41, c41⟩ : KdX) ?_ ?_ (by ((repeat (first | exact Top.refl | refine Top.push rfl ?_)); done)) (by repeat (first | exact FrLe.nil | refine FrLe.cons rfl ?_)) ?_))
    ·exact ⟨by simp only; omega, by simp only; rw [Yj L hlt, List.map_append]; exact Z9 (List.getElem_mem _) ho⟩
    ·simp only; omega
    ·exact Ent.cons (Ent.drop (Ent.refl _))
  ·have hkE : k = L.length := by omega
   rw [hkE, List.take_length] at ho
   refine QM (Qb (Qa (Qc rfl rfl (Qe rfl rfl (WpL.nil (Qi ?_))))))
   apply RetQ.mk
   ·exact (Res.one rfl rfl)
   ·exact ⟨out, a, c, ho, rfl, rfl⟩
   ·exact Ent.refl _

end Go.Proofs.YtggamdlpiejbiaaGreat
namespace Go.Proofs.YtggamdlpiejbiaaGreat
open Go.RowKit Go.Shelf


def XI (w h : Int) : Prop := (1 ≤ w ∧ w ≤ 4096) ∧ (1 ≤ h ∧ h ≤ 65536) ∧ w * h ≤ 16777216
instance (w h : Int) : Decidable (XI w h) := by unfold XI; infer_instance
def Yq (C M W H : Int) (px : List Int) : Prop := XI W H ∧ (px.length : Int) = W * H ∧ ∀ p ∈ px, Yp p C M
instance (C M W H : Int) (px : List Int) : Decidable (Yq C M W H px) := by unfold Yq; infer_instance
theorem Take1.mid {A : HP} {As : List HP} : ∀ (Bs : List HP), Take1 (Bs ++ A :: As) A (Bs ++ As)
  | [] => .here
  | _ :: Bs => .there (Take1.mid Bs)
theorem Zb (Bs : List HP) : ∀ (As : List HP), Take (Bs ++ As) As Bs
  | [] => by rw [List.append_nil]; exact .nil
  | _ :: As => .cons (Take1.mid Bs) (Zb Bs As)
theorem Ent.left : ∀ (As F : List HP), Ent (As ++ F) As
  | [], _ => Ent.nil _
  | _ :: As, F => Ent.cons (Ent.left As F)
theorem sz_mul {w h : Int} (hw : 1 ≤ w ∧ w ≤ 4096) (hh : 1 ≤ h ∧ h ≤ 65536) : 0 ≤ w * h ∧ w * h ≤ 4096 * 65536 := ⟨Int.mul_nonneg (by omega) (by omega), Int.mul_le_mul (by omega) (by omega) (by omega) (by omega)⟩

theorem rSized_spec (w h : Int) : Fn Tryz.prog 175 #[.int .i64 w, .int .i64 h] [] (fun v l => v = .bool (decide (XI w h)) ∧ l = []) := by
 refine Qk (vs := [.int .i64 w, .int .i64 h]) Tryz.func175 rfl Tryz.ntmps175 rfl (Qb (Qa (Qe rfl rfl (WpL.nil (Qb (Qb (Qa (Qc rfl rfl (Q7 rfl rfl rfl (Qc rfl rfl (QK rfl rfl rfl (fun hg1 => ?_) (fun hg1 => ?_))))))))))))
 ·have hg1 := of_decide_eq_false hg1
  refine Qc rfl rfl (Qf rfl rfl (Zm rfl rfl rfl (Qs rfl rfl rfl (Qc rfl rfl (QK rfl rfl rfl (fun hg2 => ?_) (fun hg2 => ?_))))))
  ·have hg2 := of_decide_eq_false hg2
   refine Qc rfl rfl (Qf rfl rfl (Q7 rfl rfl rfl (Qs rfl rfl rfl (Qc rfl rfl (QK rfl rfl rfl (fun hg3 => ?_) (fun hg3 => ?_))))))
   ·have hg3 := of_decide_eq_false hg3
    refine Qc rfl rfl (Qf rfl rfl (Zm rfl rfl rfl (Qs rfl rfl rfl (WpL.nil (Ql rfl (fun h0 => ?_) (fun h0 => ?_))))))
    ·refine Qb (Qa (Qe rfl rfl (WpL.nil (Qi ?_))))
     apply RetQ.mk
     ·exact (Res.one rfl rfl)
     ·exact ⟨by rw [decide_eq_false (show ¬XI w h by unfold XI; omega)], rfl⟩
     ·exact Ent.refl _
    ·have hmb := sz_mul (w := w) (h := h) (by omega) (by omega)
     refine Wp.skip (Qb (Qa (Qc rfl rfl (Qc rfl rfl (XK rfl rfl rfl (Qu (by omega) (by omega)) ?_)))))
     refine s_le rfl rfl rfl (Qe rfl rfl (WpL.nil (Qi ?_)))
     apply RetQ.mk
     ·exact (Res.one rfl rfl)
     ·exact ⟨congrArg Value.bool (decide_eq_decide.2 (by unfold XI; omega)), rfl⟩
     ·exact Ent.refl _
   ·have hg3 := of_decide_eq_true hg3
    refine Qd rfl rfl rfl (by decide) (Qt rfl rfl rfl (WpL.nil (Xc rfl (Qb (Qa (Qe rfl rfl (WpL.nil (Qi ?_))))))))
    apply RetQ.mk
    ·exact (Res.one rfl rfl)
    ·exact ⟨by rw [decide_eq_false (show ¬XI w h by unfold XI; omega)], rfl⟩
    ·exact Ent.refl _
  ·have hg2 := of_decide_eq_true hg2
   refine Qd rfl rfl rfl (by decide) (Qt rfl rfl rfl (Qc rfl rfl (Qd rfl rfl rfl (by decide) (Qd rfl rfl rfl (by decide) (Qt rfl rfl rfl (WpL.nil (Xc rfl (Qb (Qa (Qe rfl rfl (WpL.nil (Qi ?_))))))))))))
   apply RetQ.mk
   ·exact (Res.one rfl rfl)
   ·exact ⟨by rw [decide_eq_false (show ¬XI w h by unfold XI; omega)], rfl⟩
   ·exact Ent.refl _
 ·have hg1 := of_decide_eq_true hg1
  refine Qd rfl rfl rfl (by decide) (Qt rfl rfl rfl (Qc rfl rfl (Qd rfl rfl rfl (by decide) (Qd rfl rfl rfl (by decide) (Qt rfl rfl rfl (Qc rfl rfl (Qd rfl rfl rfl (by decide) (Qd rfl rfl rfl (by decide) (Qt rfl rfl rfl (WpL.nil (Xc rfl (Qb ?_))))))))))))
  refine Qa (Qe rfl rfl (WpL.nil (Qi ?_)))
  apply RetQ.mk
  ·exact (Res.one rfl rfl)
  ·exact ⟨by rw [decide_eq_false (show ¬XI w h by unfold XI; omega)], rfl⟩
  ·exact Ent.refl _

theorem rMay03_spec (W H : Int) (a : Option Addr) (n c : Nat) : Fn Tryz.prog 133 #[.agg #[.int .i64 W, .int .i64 H, .slice a n c]] [] (fun v l => v = .bool (decide (XI W H ∧ (n : Int) = W * H)) ∧ l = []) := by
 refine Qk (vs := [.agg #[.int .i64 W, .int .i64 H, .slice a n c]]) Tryz.func133 rfl Tryz.ntmps133 rfl (Qb (Qa (Q9 rfl rfl rfl ?_)))
 intro g1
 refine Qe rfl rfl (WpL.nil (Qb (Qa (Qj (o2 := 0) rfl rfl rfl (Qo rfl rfl (by rfl) ?_)))))
 refine Qj (o2 := 1) rfl rfl rfl (Qo rfl rfl (by rfl) ?_)
 refine Qh rfl rfl (by repeat' constructor) (rSized_spec _ _) ?_
 rintro _ _ ⟨rfl, rfl⟩
 simp only [Qr]
 refine Qe rfl rfl (WpL.nil (Qb (Qb (Qa (Qc rfl rfl (XN rfl rfl (WpL.nil (Ql rfl (fun h0 => ?_) (fun h0 => ?_)))))))))
 ·refine Qb (Qa (Qe rfl rfl (WpL.nil (Qi ?_))))
  apply RetQ.mk
  ·exact (Res.one rfl rfl)
  ·exact ⟨by rw [decide_eq_false (fun q => absurd q.1 (by assumption))], rfl⟩
  ·exact Ent.nil _
 ·have hsz : XI W H := Classical.not_not.1 h0
  have hsz2 := hsz
  unfold XI at hsz2
  have hmb := sz_mul hsz2.1 hsz2.2.1
  refine Wp.skip (Qb (Qa (Qj (o2 := 2) rfl rfl rfl (Qo rfl rfl (by rfl) ?_))))
  refine QC rfl rfl (Qj (o2 := 0) rfl rfl rfl (Qo rfl rfl (by rfl) ?_))
  refine Qj (o2 := 1) rfl rfl rfl (Qo rfl rfl (by rfl) ?_)
  refine XK rfl rfl rfl (Qu (by omega) (by omega)) ?_
  refine QN rfl rfl rfl (Qe rfl rfl (WpL.nil (Qi ?_)))
  apply RetQ.mk
  ·exact (Res.one rfl rfl)
  ·exact ⟨congrArg Value.bool (decide_eq_decide.2 ⟨fun q => ⟨hsz, q⟩, fun q => q.2⟩), rfl⟩
  ·exact Ent.nil _

theorem rFits03_spec (As : List HP) (W H : Int) (a : Option Addr) (c : Nat) (px : List Int) (C M : Int) (hA : RdsL As a (Xp px)) (hb : ∀ p ∈ px, 0 ≤ p ∧ p < 18446744073709551616) (hl : px.length ≤ 9223372036854775807) : Fn Tryz.prog 86 #[.agg #[.int .i64 W, .int .i64 H, .slice a px.length c], .agg #[.int .i64 C, .int .i64 M]] As (fun v l => v = .bool (decide (Yq C M W H px)) ∧ l = As) := by
 refine Qk (vs := [.agg #[.int .i64 W, .int .i64 H, .slice a px.length c], .agg #[.int .i64 C, .int .i64 M]]) Tryz.func86 rfl Tryz.ntmps86 rfl (Qb (Qa (Q9 rfl rfl rfl ?_)))
 intro gM
 refine Q9 rfl rfl rfl ?_
 intro gF
 refine Qe rfl rfl (WpL.nil (Qb (Qa ?_)))
 refine QI (vs := [_, _, _]) rfl rfl rfl (by rfl) ?_
 refine Qh rfl rfl (by repeat' constructor) (rMay03_spec _ _ _ _ _) ?_
 rintro _ _ ⟨rfl, rfl⟩
 simp only [Qr]
 refine Qe rfl rfl (WpL.nil (Qb (Qb (Qa (Qc rfl rfl (XN rfl rfl (WpL.nil (Ql rfl (fun h0 => ?_) (fun h0 => ?_)))))))))
 ·refine Qb (Qa (Qe rfl rfl (WpL.nil (Qi ?_))))
  apply RetQ.mk
  ·exact (Res.one rfl rfl)
  ·exact ⟨by rw [decide_eq_false (fun q => absurd (⟨q.1, q.2.1⟩ : XI W H ∧ (px.length : Int) = W * H) (by assumption))], rfl⟩
  ·(repeat (first | exact Ent.refl _ | refine Ent.drop ?_))
 ·have hmy := Classical.not_not.1 h0
  refine Wp.skip (Qb (Qb (Qa (Qe rfl rfl (WpL.nil (Wp.block ?_))))))
  refine Wp.loopD (σ := Nat) (fun k => k ≤ px.length ∧ ∀ p ∈ px.take k, Yp p C M) [4, 6, 7, 12, 13, 14, 15, 16, 17, 18, 19, 20, 21, 22, 23, 24, 25, 26, 27] (fun k => [(6, .int .i64 (k : Int))]) (fun k => QA gF [.int .i64 C, .int .i64 M] 48 :: QA gM [.int .i64 W, .int .i64 H, .slice a px.length c] 69 :: As) (fun k => px.length - k) 0 ?_ (by repeat (first | exact FrLe.nil | refine FrLe.cons rfl ?_)) ?_ ?_
  ·exact ⟨Nat.zero_le _, by simp⟩
  ·exact Ent.refl _
  ·rintro k ⟨hk, hfi⟩
   refine Qb (Qb (Qa (Qc rfl rfl (Qj (o2 := 2) rfl rfl rfl (Qo rfl rfl (by rfl) ?_)))))
   refine QC rfl rfl (Q7 rfl rfl rfl (WpL.nil (Ql rfl (fun h2 => ?_) (fun h2 => ?_))))
   ·have hlt : k < px.length := by omega
    have hpb := hb _ (List.getElem_mem hlt)
    refine Wp.skip (Qb (Wp.block ?_))
    refine Qb ?_
    apply Q0 mixed [⟨19, _, []⟩, ⟨20, _, [0]⟩, ⟨21, _, []⟩, ⟨22, _, [1, 2]⟩, ⟨23, _, [3]⟩, ⟨24, _, []⟩, ⟨25, _, [4, 5]⟩, ⟨7, _, [6, 0, 1, 2, 3, 4, 5]⟩] rfl
    ·refine AllObs.mk ?_ ?_
     ·exact Qj (o2 := 2) rfl rfl rfl (Qm rfl)
     refine AllObs.mk ?_ ?_
     ·refine Qo rfl rfl (by rfl) ?_
      exact Qm rfl
     refine AllObs.mk ?_ ?_
     ·exact Qc rfl rfl (Qm rfl)
     refine AllObs.mk ?_ ?_
     ·refine Q4 k rfl rfl rfl hA (by (repeat (first | exact Ent.refl _ | refine Ent.drop ?_))) rfl (by omega) (by rw [X1]; omega) ?_
      exact Qm rfl
     refine AllObs.mk ?_ ?_
     ·refine Q5 rfl rfl hA (by (repeat (first | exact Ent.refl _ | refine Ent.drop ?_))) (YP px hlt) ?_
      exact Qm rfl
     refine AllObs.mk ?_ ?_
     ·refine QI (vs := [_, _]) rfl rfl rfl (by rfl) ?_
      exact Qm rfl
     refine AllObs.mk ?_ ?_
     ·refine Qh rfl rfl (by repeat' constructor) (rFits_spec _ _ _ hpb.1 hpb.2) ?_
      rintro _ _ ⟨rfl, rfl⟩
      simp only [Qr]
      exact WpL.nil ⟨rfl, rfl, rfl, by exact Ent.refl _⟩
     refine AllObs.mk ?_ ?_
     ·exact Qe rfl rfl (Qm rfl)
     exact AllObs.nil
    ·refine Qb (Qa (Qc rfl rfl (XN rfl rfl (WpL.nil (Ql rfl (fun h3 => ?_) (fun h3 => ?_))))))
     ·refine Qb (Qa (Qe rfl rfl (WpL.nil (Qi ?_))))
      apply RetQ.mk
      ·exact (Res.one rfl rfl)
      ·exact ⟨by rw [decide_eq_false (fun q => absurd (q.2.2 _ (List.getElem_mem hlt)) (by assumption))], rfl⟩
      ·(repeat (first | exact Ent.refl _ | refine Ent.drop ?_))
     ·refine Wp.skip (Qa (Qc rfl rfl (QD rfl rfl rfl (Qu (by omega) (by omega)) ?_)))
      refine Qe rfl rfl (WpL.nil (Qv (k + 1) ?_ ?_ (by ((repeat (first | exact Top.refl | refine Top.push rfl ?_)); done)) (by repeat (first | exact FrLe.nil | refine FrLe.cons rfl ?_)) ?_))
      ·refine ⟨by omega, ?_⟩
       rw [Yj px hlt]
       intro q hq
       rcases List.mem_append.1 hq with hq | hq
       ·exact hfi q hq
       ·rw [List.mem_singleton.1 hq]; exact Classical.not_not.1 (by assumption)
      ·omega
      ·exact Ent.refl _
   ·refine QM (Qb (Qa (Qe rfl rfl (WpL.nil (Qi ?_)))))
    apply RetQ.mk
    ·exact (Res.one rfl rfl)
    ·have hkE : k = px.length := by omega
     rw [hkE, List.take_length] at hfi
     exact ⟨by rw [decide_eq_true (p := Yq C M W H px) ⟨hmy.1, hmy.2, hfi⟩], rfl⟩
    ·(repeat (first | exact Ent.refl _ | refine Ent.drop ?_))

theorem rMay10_spec (As : List HP) (C M W H : Int) (a : Option Addr) (c : Nat) (px : List Int) (hA : RdsL As a (Xp px)) (hb : ∀ p ∈ px, 0 ≤ p ∧ p < 18446744073709551616) (hl : px.length ≤ 9223372036854775807) : Fn Tryz.prog 47 #[.agg #[.int .i64 C, .int .i64 M, .int .i64 W, .int .i64 H, .slice a px.length c]] As (fun v l => v = .bool (decide (Yq C M W H px)) ∧ l = As) := by
 refine Qk (vs := [.agg #[.int .i64 C, .int .i64 M, .int .i64 W, .int .i64 H, .slice a px.length c]]) Tryz.func47 rfl Tryz.ntmps47 rfl (Qb (Qa (Q9 rfl rfl rfl ?_)))
 intro gI
 refine Qe rfl rfl (WpL.nil (Qb (Qa (Qj (o2 := 2) rfl rfl rfl ?_))))
 refine QI (vs := [_, _, _]) rfl rfl rfl (by rfl) ?_
 refine Qj (o2 := 0) rfl rfl rfl ?_
 refine QI (vs := [_, _]) rfl rfl rfl (by rfl) ?_
 refine Qh rfl rfl (Zb [_] As) (rFits03_spec As W H a c px C M hA hb hl) ?_
 rintro _ _ ⟨rfl, rfl⟩
 refine Qe rfl rfl (WpL.nil (Qi ?_))
 apply RetQ.mk
 ·exact (Res.one rfl rfl)
 ·exact ⟨rfl, rfl⟩
 ·exact Ent.left _ _

theorem rTells_spec (As : List HP) (C M W H : Int) (a : Option Addr) (c : Nat) (px : List Int) (hA : RdsL As a (Xp px)) (hb : ∀ p ∈ px, 0 ≤ p ∧ p < 18446744073709551616) (hl : px.length ≤ 9223372036854775807) (k : Int) : Fn Tryz.prog 67 #[.agg #[.int .i64 C, .int .i64 M, .int .i64 W, .int .i64 H, .slice a px.length c], .int .i64 k] As (fun v l => v = .bool (decide (k ∈ QJ C M ∧ Yq C M W H px)) ∧ l = As) := by
 refine Qk (vs := [.agg #[.int .i64 C, .int .i64 M, .int .i64 W, .int .i64 H, .slice a px.length c], .int .i64 k]) Tryz.func67 rfl Tryz.ntmps67 rfl (Qb (Qa (Q9 rfl rfl rfl ?_)))
 intro gI
 refine Qe rfl rfl (WpL.nil (Qb (Qa (Qj (o2 := 0) rfl rfl rfl ?_))))
 refine QI (vs := [_, _]) rfl rfl rfl (by rfl) ?_
 refine Qh rfl rfl (by repeat' constructor) (rKinds10_spec _ _) ?_
 rintro _ _ ⟨a9, c9, rfl, rfl⟩
 simp only [Qr]
 refine Qe rfl rfl (WpL.nil (Qb (Qb (Qa (Qe rfl rfl (WpL.nil (Wp.block ?_)))))))
 have hk7 := kinds_len (C := C) (M := M)
 refine Wp.loopD (σ := Nat) (fun i => i ≤ (QJ C M).length ∧ ∀ q ∈ (QJ C M).take i, q ≠ k) [4, 6, 10, 11, 12, 13, 14, 15, 16, 17, 18, 19, 20, 21, 22, 23] (fun i => [(6, .int .i64 (i : Int))]) (fun i => QG 3 1 a9 c9 (QJ C M).length (QY (QJ C M)) :: QA gI [.int .i64 C, .int .i64 M, .int .i64 W, .int .i64 H, .slice a px.length c] 71 :: As) (fun i => (QJ C M).length - i) 0 ?_ (by repeat (first | exact FrLe.nil | refine FrLe.cons rfl ?_)) ?_ ?_
 ·exact ⟨Nat.zero_le _, by simp⟩
 ·exact Ent.refl _
 ·rintro i ⟨hi, hne⟩
  refine Qb (Qb (Qa (Qc rfl rfl (Qc rfl rfl (QC rfl rfl (Q7 rfl rfl rfl (WpL.nil (Ql rfl (fun h1 => ?_) (fun h1 => ?_)))))))))
  ·have hlt : i < (QJ C M).length := by omega
   refine Wp.skip (Qb (Wp.block ?_))
   refine Qb (Qa (Qc rfl rfl (Qc rfl rfl (Q4 i rfl rfl rfl (QE (T := 3) (s := 1)) (by exact Take.ent' (by repeat' constructor)) rfl (by omega) (by rw [QT]; omega) ?_))))
   refine Q5 rfl rfl (QE (T := 3) (s := 1)) (by exact Take.ent' (by repeat' constructor)) (Xi (QJ C M) hlt) ?_
   refine Qc rfl rfl (QN rfl rfl rfl (WpL.nil (Ql rfl (fun h2 => ?_) (fun h2 => ?_))))
   ·have hkm : k ∈ QJ C M := by have q := List.getElem_mem hlt; rwa [show (QJ C M)[i] = k by assumption] at q
    refine Qb (Qa ?_)
    refine QI (vs := [_, _, _, _, _]) rfl rfl rfl (by rfl) ?_
    refine Qh rfl rfl (Zb [_, _] As) (rMay10_spec As C M W H a c px hA hb hl) ?_
    rintro _ _ ⟨rfl, rfl⟩
    refine Qe rfl rfl (WpL.nil (Qi ?_))
    apply RetQ.mk
    ·exact (Res.one rfl rfl)
    ·exact ⟨congrArg Value.bool (decide_eq_decide.2 ⟨fun q => ⟨hkm, q⟩, fun q => q.2⟩), rfl⟩
    ·exact Ent.left _ _
   ·refine Wp.skip (Qa (Qc rfl rfl (QD rfl rfl rfl (Qu (by omega) (by omega)) ?_)))
    refine Qe rfl rfl (WpL.nil (Qv (i + 1) ?_ ?_ (by ((repeat (first | exact Top.refl | refine Top.push rfl ?_)); done)) (by repeat (first | exact FrLe.nil | refine FrLe.cons rfl ?_)) ?_))
    ·refine ⟨by omega, ?_⟩
     rw [Yj _ hlt]
     intro q hq
     rcases List.mem_append.1 hq with hq | hq
     ·exact hne q hq
     ·rw [List.mem_singleton.1 hq]; assumption
    ·omega
    ·exact Ent.refl _
  ·refine QM (Qb (Qa (Qe rfl rfl (WpL.nil (Qi ?_)))))
   apply RetQ.mk
   ·exact (Res.one rfl rfl)
   ·rw [show i = (QJ C M).length by omega, List.take_length] at hne
    exact ⟨by rw [decide_eq_false (fun q => hne _ q.1 rfl)], rfl⟩
   ·exact Ent.drop (Ent.drop (Ent.refl _))

end Go.Proofs.YtggamdlpiejbiaaGreat
