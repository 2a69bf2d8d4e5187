/- Walks and plain laws, a part of the proof of ImageWrites: every input that the law's guards let in, no condition beside. -/
import Derived.Lib.ConvBytes
import Derived.Laws.StructEq
import Derived.ChangeKeysEq
import Derived.Test.YtggamdlpiejbiaaGreatM21
namespace Go.Proofs.YtggamdlpiejbiaaGreat
open Go.RowKit Go.Shelf

theorem rMay09_spec (K W H M : Int) (hM : RawH K W H M) : Fn Tryz.prog 120 #[.agg #[.int .i64 K, .int .i64 W, .int .i64 H, .int .i64 M]] [] (fun v l => v = .bool true ∧ l = []) := by
 refine Ql (vs := [.agg #[.int .i64 K, .int .i64 W, .int .i64 H, .int .i64 M]]) Tryz.func120 rfl Tryz.ntmps120 rfl (Qb (Qa (QV rfl rfl rfl ?_)))
 intro gH
 refine Qe rfl rfl (WpL.nil (Qb (Qa ?_)))
 refine QA (vs := [_, _, _, _]) rfl rfl rfl (by rfl) ?_
 refine Qh rfl rfl (by repeat' constructor) (rMay06_spec _ _ _ _) ?_
 rintro _ _ ⟨rfl, rfl⟩
 simp only [Qr]
 refine Qe rfl rfl (WpL.nil (Qb (Qa (Qc rfl rfl (Qc rfl rfl (Qx (dj := 7) rfl (decide_eq_true hM.1) ?_))))))
 refine Qf rfl rfl (Qj (o2 := 0) rfl rfl rfl (Qf rfl rfl (Qo rfl rfl (by rfl) ?_)))
 refine Qf rfl rfl (Y5 rfl rfl rfl (Qs rfl rfl rfl (Qe rfl rfl (WpL.nil (Qi ?_)))))
 apply RetQ.mk
 ·exact (Res.one rfl rfl)
 ·exact ⟨congrArg Value.bool (decide_eq_true (by have := hM.2; omega)), rfl⟩
 ·exact Ent.nil _


structure RwX where
  (i y x : Nat) (out row : List Int) (aO : Option Addr) (cO : Nat) (aR : Option Addr) (cR : Nat)
theorem one_list {l : List Int} (h : l.length = 1) (h0 : 0 < l.length) : [l[0]'h0] = l := by
  match l, h with
  | [q], _ => rfl
theorem enc_two {w : Nat} {x : Int} (h : ((w : Nat) : Int) = 2) : Ya w x = [x / 256, x % 256] := by unfold Ya; rw [if_neg (by omega)]
theorem enc_lo {M x : Int} (h : ¬ ((Qg M : Nat) : Int) = 2) (h0 : 0 ≤ x) (h1 : x ≤ M) : Ya (Qg M) x = [x % 256] := by
  unfold Qg at h ⊢
  split at h
  · exact absurd rfl h
  · rename_i hm
    rw [if_neg hm]
    unfold Ya
    rw [if_pos rfl]
    congr 1
    omega

set_option maxHeartbeats 2000000 in
theorem rWrite09_spec (A0 : HP) (a0 : Option Addr) (c0 : Nat) (px : List Int) (hA : RdsL [A0] a0 (XA px)) (hr : ∀ p ∈ px, 0 ≤ p ∧ p < 18446744073709551616) (K : Int) (W H : Nat) (M : Int) (hR : RawH K (W : Int) (H : Int) M) (hpl : px.length = W * H) (hfit : ∀ p ∈ px, X6 p (QO K) M) (hl : px.length ≤ 1000000) : Fn Tryz.prog 70 #[.slice a0 px.length c0, .agg #[.int .i64 K, .int .i64 (W : Int), .int .i64 (H : Int), .int .i64 M]] [A0] (fun v l => ∃ a c, v = .tuple #[.slice a (Q5 K W (Qg M) px H).length c, .int .i64 0] ∧ l = [QL 5 1 a c (Q5 K W (Qg M) px H).length (Xh (Q5 K W (Qg M) px H)), A0]) := by
 have hM2 := hR.1
 unfold Xt at hM2
 have hcn : ∀ p ∈ px, Can (QO K) M p := fun p hp => can_of_fit (hr p hp).1 (hr p hp).2 (hfit p hp)
 have hpl2 : (px.length : Int) = (W : Int) * (H : Int) := by rw [hpl]; push_cast; rfl
 refine Ql (vs := [.slice a0 px.length c0, .agg #[.int .i64 K, .int .i64 (W : Int), .int .i64 (H : Int), .int .i64 M]]) Tryz.func70 rfl Tryz.ntmps70 rfl (Qb (Qa (QV rfl rfl rfl ?_)))
 intro gH
 refine Qe rfl rfl (Qe rfl rfl (WpL.nil (Qb (Qa ?_))))
 refine QA (vs := [_, _, _, _]) rfl rfl rfl (by rfl) ?_
 refine Qh rfl rfl (by repeat' constructor) (rMay09_spec _ _ _ _ hR) ?_
 rintro _ _ ⟨rfl, rfl⟩
 simp only [Qr]
 refine Qe rfl rfl (WpL.nil (Qb (Qb (Qa (Qc rfl rfl (Y9 rfl rfl (WpL.nil (Wp.condBF rfl (by decide) (Wp.skip (Qb (Qb (Qa ?_))))))))))))
 refine Qc rfl rfl (QH rfl rfl (Qj (o2 := 1) rfl rfl rfl (Qo rfl rfl (by rfl) ?_)))
 refine Qj (o2 := 2) rfl rfl rfl (Qo rfl rfl (by rfl) ?_)
 refine Xy rfl rfl rfl (Qt (by omega) (by omega)) ?_
 rw [← hpl2]
 refine Xc rfl rfl rfl (WpL.nil (Qz rfl (fun hn => hn rfl) ?_))
 refine Wp.skip (Qb (Qa (Qe rfl rfl (WpL.nil (Qb (Qa (Qe rfl rfl (WpL.nil (Qb (Qb (Qa (Qe rfl rfl ?_))))))))))))
 refine WpL.nil (Wp.block ?_)
 refine Wp.loopD (σ := RwX) (fun x => x.i ≤ px.length ∧ WrI K W (Qg M) px x.i x.y x.x x.out x.row ∧ x.out.length + x.row.length ≤ 6 * x.i ∧ (K = 4 → x.row.length = x.x)) [4, 5, 7, 8, 9, 10, 11, 12, 13, 14, 27, 28, 29, 30, 31, 32, 33, 34, 35, 36, 37, 38, 39, 40, 41, 42, 43, 44, 45, 46, 47, 48, 49, 50, 51, 52, 53, 54, 55, 56, 57, 58, 59, 60, 61, 62, 63, 64, 65, 66, 67, 68, 69, 70, 71, 72, 73, 74, 75, 76, 77, 78, 79, 80, 81, 82, 83, 84, 85, 86, 87, 88, 89, 90, 91, 92, 93, 94, 95] (fun x => [(9, .int .i64 (x.i : Int)), (8, .slice x.aR x.row.length x.cR), (7, .slice x.aO x.out.length x.cO)]) (fun x => [QL 5 1 x.aO x.cO x.out.length (Xh x.out), QL 3 1 x.aR x.cR x.row.length (QZ x.row), QB gH [.int .i64 K, .int .i64 (W : Int), .int .i64 (H : Int), .int .i64 M] 113, A0]) (fun x => px.length - x.i) ⟨0, 0, 0, [], [], none, 0, none, 0⟩ ?_ (by repeat (first | exact FrLe.nil | refine FrLe.cons rfl ?_)) ?_ ?_
 ·exact ⟨Nat.zero_le _, WrI.zero (by omega), by simp, fun _ => rfl⟩
 ·exact Ent.own_nil (Ent.own_nil (Ent.refl _))
 ·rintro ⟨i, y, x, out, row, aO, cO, aR, cR⟩ ⟨hi, hI, hlen, hrl⟩
  dsimp only at hi hI hlen hrl ⊢
  refine Qb (Qb (Qa (Qc rfl rfl (Qc rfl rfl (QH rfl rfl (Q4 rfl rfl rfl (WpL.nil (Qk rfl (fun h3 => ?_) (fun h3 => ?_)))))))))
  ·have hlt : i < px.length := by omega
   have hpb := hr _ (List.getElem_mem hlt)
   have hcan := hcn _ (List.getElem_mem hlt)
   have hul := Xq px[i]
   refine Wp.skip (Qb (Wp.block ?_))
   refine Qb ?_
   apply QU mixed [⟨33, _, []⟩, ⟨34, _, []⟩, ⟨35, _, [0, 1]⟩, ⟨36, _, [2]⟩, ⟨37, _, []⟩, ⟨38, _, [4]⟩, ⟨39, _, [3, 5]⟩, ⟨10, _, [6, 0, 1, 2, 3, 4, 5]⟩] rfl
   ·refine AllObs.mk ?_ ?_
    ·exact Qc rfl rfl (Qn rfl)
    refine AllObs.mk ?_ ?_
    ·exact Qc rfl rfl (Qn rfl)
    refine AllObs.mk ?_ ?_
    ·refine Q2 i rfl rfl rfl hA (by exact Take.ent' (by repeat' constructor)) rfl (by omega) (by rw [XI]; omega) ?_
     exact Qn rfl
    refine AllObs.mk ?_ ?_
    ·refine Q8 rfl rfl hA (by exact Take.ent' (by repeat' constructor)) (Yh px hlt) ?_
     exact Qn rfl
    refine AllObs.mk ?_ ?_
    ·refine QA (vs := [_, _, _, _]) rfl rfl rfl (by rfl) ?_
     exact Qn rfl
    refine AllObs.mk ?_ ?_
    ·refine Qh rfl rfl (by repeat' constructor) (rFormat_spec _ _ _ _ (by omega) (by omega)) ?_
     rintro _ _ ⟨rfl, rfl⟩
     simp only [Qr]
     exact WpL.nil ⟨rfl, rfl, rfl, by exact Ent.refl _⟩
    refine AllObs.mk ?_ ?_
    ·refine Qh rfl rfl (by repeat' constructor) (rFits_spec _ _ _ hpb.1 hpb.2) ?_
     rintro _ _ ⟨rfl, rfl⟩
     simp only [Qr]
     exact WpL.nil ⟨rfl, rfl, rfl, by exact Ent.refl _⟩
    refine AllObs.mk ?_ ?_
    ·exact Qe rfl rfl (Qn rfl)
    exact AllObs.nil
   ·refine Qb (Qb (Qa (Qc rfl rfl (XH rfl rfl (WpL.nil (Qk rfl (fun h4 => ?_) (fun h4 => ?_)))))))
    ·exfalso; exact absurd (hfit _ (List.getElem_mem hlt)) (by assumption)
    ·refine Wp.skip (Qb (Qa (Qc rfl rfl (Qc rfl rfl (Q2 i rfl rfl rfl hA (by exact Take.ent' (by repeat' constructor)) rfl (by omega) (by rw [XI]; omega) ?_)))))
     refine Q8 rfl rfl hA (by exact Take.ent' (by repeat' constructor)) (Yh px hlt) ?_
     refine Qh rfl rfl (by repeat' constructor) (Z4 _ hpb.1 hpb.2) ?_
     rintro _ _ ⟨A1, a1, c1, rfl, rfl, hA1, hn1⟩
     simp only [Qr]
     refine Qe rfl rfl (WpL.nil (Qb (Qb (Qa (Qj (o2 := 0) rfl rfl rfl (Qo rfl rfl (by rfl) ?_))))))
     refine QK rfl rfl rfl (WpL.nil (Qk rfl (fun h5 => ?_) (fun h5 => ?_)))
     ·have hM1 : M = 1 := by omega
      have hc4 : QO K = 1 := by rw [h5]; rfl
      have hu1 : (Qm px[i]).length = 1 := by have := hcan.1; omega
      have hu0 : 0 < (Qm px[i]).length := by omega
      have hus : [(Qm px[i])[0]'hu0] = (Qm px[i]) := one_list hu1 hu0
      have hbits : ∀ q ∈ row ++ (Qm px[i]), Zc q := fun q hq => by
       rw [← hI.row h5 hlt] at hq
       obtain ⟨p, hp, hq⟩ := List.mem_flatMap.1 hq
       have h9 := (hcn p (List.mem_of_mem_drop (List.mem_of_mem_take hp))).2.2 q hq
       unfold Zc
       omega
      have hrx := hrl h5
      refine Qb (Qa (Qc rfl rfl (Qc rfl rfl (Q2 0 rfl rfl rfl hA1 (by exact Take.ent' (by repeat' constructor)) rfl (by omega) (by rw [Q1]; omega) ?_))))
      refine Q8 rfl rfl hA1 (by exact Take.ent' (by repeat' constructor)) (Xm (Qm px[i]) hu0) ?_
      refine Yp rfl rfl rfl rfl ?_
      intro g2
      refine XZ rfl rfl rfl (by repeat' constructor) (by rfl) (by rfl) (by rfl) (by rfl) (by omega) (by omega) ?_
      intro a55 c55
      rw [YR, show row.length + 1 = (row ++ [((Qm px[i])[0]'hu0)]).length from by simp]
      rw [hus]
      refine Qe rfl rfl (WpL.nil (Qb (Qb (Qa (Qc rfl rfl (QH rfl rfl (Qj (o2 := 1) rfl rfl rfl (Qo rfl rfl (by rfl) ?_))))))))
      refine QK rfl rfl rfl (WpL.nil (Qk rfl (fun h6 => ?_) (fun h6 => ?_)))
      ·have hxW : x + 1 = W := by simp only [List.length_append] at h6; omega
       refine Qb (Qa (Qc rfl rfl (Qh rfl rfl (by repeat' constructor) (rPack07_spec _ a55 c55 (row ++ (Qm px[i])) QR hbits (by simp only [List.length_append]; omega) (by simp only [List.length_append]; omega)) ?_)))
       rintro _ _ ⟨aP, cP, rfl, rfl⟩
       simp only [Qr]
       have hpkl := Yy (row ++ (Qm px[i]))
       rw [List.length_append] at hpkl
       refine Qc rfl rfl (QD rfl rfl rfl (QD rfl rfl rfl (Qe rfl rfl (Qe rfl rfl (WpL.nil (Qb (Qa (Qc rfl rfl (Qc rfl rfl (s_appo rfl rfl rfl (by repeat' constructor) (by rfl) (by rfl) (YW _) (by omega) (by omega) ?_))))))))))
       intro a68 c68
       rw [Vc, ← List.length_append]
       refine Qe rfl rfl (WpL.nil (Qa (Qe rfl rfl (WpL.nil (QJ (Qa (Qc rfl rfl (QE rfl rfl rfl (Qt (by omega) (by omega)) ?_))))))))
       refine Qe rfl rfl (WpL.nil (Qw (⟨i + 1, y + 1, 0, out ++ Yb (row ++ (Qm px[i])), [], a68, c68, none, 0⟩ : RwX) ?_ ?_ (by ((repeat (first | exact Top.refl | refine Top.push rfl ?_)); done)) (by repeat (first | exact FrLe.nil | refine FrLe.cons rfl ?_)) ?_))
       ·exact ⟨by simp only; omega, hI.full h5 hlt (by omega), by simp only [List.length_append, List.length_nil, Yy]; omega, fun _ => rfl⟩
       ·simp only; omega
       ·refine Ent.trans (m := [QL 5 1 a68 c68 (out ++ Yb (row ++ (Qm px[i]))).length (Xh (out ++ Yb (row ++ (Qm px[i])))), QB gH [.int .i64 K, .int .i64 (W : Int), .int .i64 (H : Int), .int .i64 M] 113, A0]) (Take.ent' (by repeat' constructor)) (Ent.cons (Ent.own_nil (Ent.refl _)))
      ·have hxW : x + 1 ≠ W := fun q => h6 (by simp only [List.length_append]; omega)
       have hxl : x < W := by rcases hI with ⟨_, _, q, _⟩ | ⟨q, _⟩; exact q; exact absurd h5 q
       refine Wp.skip (QJ (Qa (Qc rfl rfl (QE rfl rfl rfl (Qt (by omega) (by omega)) ?_))))
       refine Qe rfl rfl (WpL.nil (Qw (⟨i + 1, y, x + 1, out, row ++ (Qm px[i]), aO, cO, a55, c55⟩ : RwX) ?_ ?_ (by ((repeat (first | exact Top.refl | refine Top.push rfl ?_)); done)) (by repeat (first | exact FrLe.nil | refine FrLe.cons rfl ?_)) ?_))
       ·exact ⟨by simp only; omega, hI.four h5 hlt (by omega), by simp only [List.length_append]; omega, fun q => by simp only [List.length_append]; have := hrl q; omega⟩
       ·simp only; omega
       ·exact Take.ent' (by repeat' constructor)
     ·have hrn := hI.rown h5
      subst hrn
      refine Wp.skip (Qb (Qa (Qe rfl rfl (WpL.nil (Wp.block ?_)))))
      refine Wp.loopD (σ := KdX) (fun z => z.k ≤ (Qm px[i]).length ∧ z.out = out ++ ((Qm px[i]).take z.k).flatMap (Ya (Qg M)) ∧ z.out.length ≤ out.length + 2 * z.k) [7, 14, 69, 70, 71, 72, 73, 74, 75, 76, 77, 78, 79, 80, 81, 82, 83, 84, 85, 86, 87, 88, 89, 90, 91, 92, 93, 94, 95] (fun z => [(14, .int .i64 (z.k : Int)), (7, .slice z.a z.out.length z.c)]) (fun z => [QL 5 1 z.a z.c z.out.length (Xh z.out), A1, QL 3 1 aR cR 0 (QZ []), QB gH [.int .i64 K, .int .i64 (W : Int), .int .i64 (H : Int), .int .i64 M] 113, A0]) (fun z => (Qm px[i]).length - z.k) ⟨0, out, aO, cO⟩ ?_ (by repeat (first | exact FrLe.nil | refine FrLe.cons rfl ?_)) ?_ ?_
      ·exact ⟨Nat.zero_le _, by simp, by simp⟩
      ·exact Take.ent' (by repeat' constructor)
      ·rintro ⟨j, out2, a2, c2⟩ ⟨hj, ho2, hol2⟩
       dsimp only at hj ho2 hol2 ⊢
       refine Qb (Qb (Qa (Qc rfl rfl (Qc rfl rfl (QH rfl rfl (Q4 rfl rfl rfl (WpL.nil (Qk rfl (fun h8 => ?_) (fun h8 => ?_)))))))))
       ·have hlj : j < (Qm px[i]).length := by omega
        have huj := hcan.2.2 _ (List.getElem_mem hlj)
        refine Wp.skip (Qb (Wp.block ?_))
        refine Qb (Qb (Qa ?_))
        refine QA (vs := [_, _, _, _]) rfl rfl rfl (by rfl) ?_
        refine Qh rfl rfl (by repeat' constructor) (rwide_spec _ _ _ _) ?_
        rintro _ _ ⟨rfl, rfl⟩
        simp only [Qr]
        refine QK rfl rfl rfl (WpL.nil (Qk rfl (fun h9 => ?_) (fun h9 => ?_)))
        ·refine Qa (Qc rfl rfl (Qc rfl rfl (Qc rfl rfl (Q2 j rfl rfl rfl hA1 (by exact Take.ent' (by repeat' constructor)) rfl (by omega) (by rw [Q1]; omega) ?_))))
         refine Q8 rfl rfl hA1 (by exact Take.ent' (by repeat' constructor)) (Xm (Qm px[i]) hlj) ?_
         refine Zp rfl rfl rfl (by omega) (by omega) (Qt (by omega) (by omega)) ?_
         refine X3 rfl Tryz.underlying3 rfl (w_u8 (by omega) (by omega)) ?_
         refine Yp rfl rfl rfl rfl ?_
         intro g3
         refine XZ rfl rfl rfl (by repeat' constructor) (by rfl) (by rfl) (by rfl) (by rfl) (by omega) (by omega) ?_
         intro a86 c86
         rw [Zr, show out2.length + 1 = (out2 ++ [(((Qm px[i])[j]'hlj) / 256)]).length from by simp]
         have hl1 : (out2 ++ [((Qm px[i])[j]'hlj) / 256]).length = out2.length + 1 := by simp
         refine Qe rfl rfl (WpL.nil (Qa (Qc rfl rfl (Qc rfl rfl (Qc rfl rfl (Q2 j rfl rfl rfl hA1 (by exact Take.ent' (by repeat' constructor)) rfl (by omega) (by rw [Q1]; omega) ?_))))))
         refine Q8 rfl rfl hA1 (by exact Take.ent' (by repeat' constructor)) (Xm (Qm px[i]) hlj) ?_
         refine YA rfl rfl rfl (by omega) (by omega) ?_
         refine X3 rfl Tryz.underlying3 rfl (w_u8 (by omega) (by omega)) ?_
         refine Yp rfl rfl rfl rfl ?_
         intro g4
         (refine XZ rfl rfl rfl (by repeat' constructor) (by rfl) (by rfl) (by rfl) (by rfl) (by omega) (by omega) ?_; intro a95 c95; rw [Zr, show (out2 ++ [((Qm px[i])[j]'hlj) / 256]).length + 1 = ((out2 ++ [((Qm px[i])[j]'hlj) / 256]) ++ [(((Qm px[i])[j]'hlj) % 256)]).length from by simp])
         refine Qe rfl rfl (WpL.nil (Qa (Qc rfl rfl (QE rfl rfl rfl (Qt (by omega) (by omega)) ?_))))
         refine Qe rfl rfl (WpL.nil (Qw (⟨j + 1, out2 ++ [((Qm px[i])[j]'hlj) / 256] ++ [((Qm px[i])[j]'hlj) % 256], a95, c95⟩ : KdX) ?_ ?_ (by ((repeat (first | exact Top.refl | refine Top.push rfl ?_)); done)) (by repeat (first | exact FrLe.nil | refine FrLe.cons rfl ?_)) ?_))
         ·exact ⟨by simp only; omega, by simp only; rw [ho2, ← ZI hlj, enc_two h9]; simp, by simp only [List.length_append, List.length_cons, List.length_nil]; omega⟩
         ·simp only; omega
         ·exact Ent.refl _
        ·refine Wp.skip (Qa (Qc rfl rfl (Qc rfl rfl (Qc rfl rfl (Q2 j rfl rfl rfl hA1 (by exact Take.ent' (by repeat' constructor)) rfl (by omega) (by rw [Q1]; omega) ?_)))))
         refine Q8 rfl rfl hA1 (by exact Take.ent' (by repeat' constructor)) (Xm (Qm px[i]) hlj) ?_
         refine YA rfl rfl rfl (by omega) (by omega) ?_
         refine X3 rfl Tryz.underlying3 rfl (w_u8 (by omega) (by omega)) ?_
         refine Yp rfl rfl rfl rfl ?_
         intro g5
         (refine XZ rfl rfl rfl (by repeat' constructor) (by rfl) (by rfl) (by rfl) (by rfl) (by omega) (by omega) ?_; intro a95 c95; rw [Zr, show out2.length + 1 = (out2 ++ [(((Qm px[i])[j]'hlj) % 256)]).length from by simp])
         refine Qe rfl rfl (WpL.nil (Qa (Qc rfl rfl (QE rfl rfl rfl (Qt (by omega) (by omega)) ?_))))
         refine Qe rfl rfl (WpL.nil (Qw (⟨j + 1, out2 ++ [((Qm px[i])[j]'hlj) % 256], a95, c95⟩ : KdX) ?_ ?_ (by ((repeat (first | exact Top.refl | refine Top.push rfl ?_)); done)) (by repeat (first | exact FrLe.nil | refine FrLe.cons rfl ?_)) ?_))
         ·exact ⟨by simp only; omega, by simp only; rw [ho2, ← ZI hlj, enc_lo h9 huj.1 huj.2]; simp, by simp only [List.length_append, List.length_cons, List.length_nil]; omega⟩
         ·simp only; omega
         ·exact Ent.refl _
       ·have hjE : j = (Qm px[i]).length := by omega
        rw [hjE, List.take_length] at ho2
        refine QJ (Qa (Qc rfl rfl (QE rfl rfl rfl (Qt (by omega) (by omega)) ?_)))
        refine Qe rfl rfl (WpL.nil (Qw (⟨i + 1, y, x, out2, [], a2, c2, aR, cR⟩ : RwX) ?_ ?_ (by ((repeat (first | exact Top.refl | refine Top.push rfl ?_)); done)) (by repeat (first | exact FrLe.nil | refine FrLe.cons rfl ?_)) ?_))
        ·exact ⟨by simp only; omega, by simp only; rw [ho2]; exact hI.more h5 hlt, by simp only [List.length_nil]; omega, fun q => absurd q h5⟩
        ·simp only; omega
        ·exact Take.ent' (by repeat' constructor)
  ·have hoE := hI.done (by omega) (show i = px.length by omega) hpl
   subst hoE
   refine QJ (Qb (Qa (Qc rfl rfl (Qe rfl rfl (Qe rfl rfl (WpL.nil (Qi ?_)))))))
   apply RetQ.mk
   ·exact (QC rfl rfl rfl)
   ·exact ⟨aO, cO, rfl, rfl⟩
   ·exact Take.ent' (by repeat' constructor)

end Go.Proofs.YtggamdlpiejbiaaGreat
namespace Go.Proofs.YtggamdlpiejbiaaGreat
open Go.RowKit Go.Shelf
/-- A block whose first cells are these. -/
def rdo (g : Nat) (xs : List Value) : HP where
  p w S := (∀ b, S b ↔ b = g) ∧ g < w.heap.size ∧ ∀ (j : Nat) (u : Value), xs[j]? = some u → w.cell? ⟨g, j, none⟩ = some u
  loc := fun ⟨hs, hg, h⟩ hz hb => ⟨hs, Nat.lt_of_lt_of_le hg hz, fun j u hu => by rw [← h j u hu]; exact cell_same (hb _ ((hs _).2 rfl))⟩
  lt := fun ⟨hs, hg, _⟩ b hb => by rw [(hs b).1 hb]; exact hg
theorem RdsL.rdo {g : Nat} {xs : List Value} : RdsL [Go.Proofs.YtggamdlpiejbiaaGreat.rdo g xs] (some ⟨g, 0, none⟩) xs := by
  intro w U ⟨S, ⟨_, _, h⟩, _⟩
  refine ⟨fun _ => rfl, fun ad had j u hu => ?_⟩
  injection had with had
  subst had
  have := h j u hu
  simpa [Addr.add] using (by by_cases hj : j = 0 <;> simpa [Addr.add, hj] using this : w.cell? ((⟨g, 0, none⟩ : Addr).add j) = some u)
theorem bytes_below (w : World) (e : Nat) (s : ByteArray) : Below w.heap.size w (Lib.bytesWorld w e s) := by
  refine ⟨?_, ?_, ?_, ?_, ?_⟩
  · simp [Lib.bytesWorld, World.freeze, World.alloc, World.drew, -World.alloc_eq, -World.drew_eq]
  · simp [Lib.bytesWorld, World.freeze, World.alloc, World.drew, -World.alloc_eq, -World.drew_eq]
  · simp [Lib.bytesWorld, World.freeze, World.alloc, World.drew, -World.alloc_eq, -World.drew_eq]
  · rw [Lib.bytesWorld_size]; omega
  · intro b hb; exact Lib.bytesWorld_at_old w e s b hb
section
variable {P : Program} {n : Cx} {D : List Deferred} {ops : Array Oper} {rest : List Oper} {Q : Post} {fr : Fr} {l : List HP} {ty : Nat} {pos : String} {aft : Array Edge}
theorem out_bytes {w : World} {U : Nat → Prop} (h : Sat w l U) (e : Nat) (s : ByteArray) : Out (rdo w.heap.size (Xh (QW s)) :: l) U w (Lib.bytesWorld w e s) := by
  have hb := bytes_below w e s
  have h2 : Sat (Lib.bytesWorld w e s) l (fun b => U b ∧ b < w.heap.size) := h.inside.keep hb.size fun b _ hlt => hb.block b hlt
  refine ⟨⟨fun b => b = w.heap.size, ⟨fun _ => Iff.rfl, by rw [Lib.bytesWorld_size]; omega, fun j u hu => ?_⟩, fun b hb => .inr (Nat.le_of_eq hb.symm), h2.mono fun b hb => ⟨.inl hb.1, fun e => ?_⟩⟩, .of_below hb⟩
  · have hj : j < (QW s).length := by
      have := List.getElem?_eq_some_iff.1 hu
      rw [← QY]; exact this.1
    rw [Y7 _ hj] at hu
    injection hu with hu
    have hj2 : j < s.size := by rw [Xj] at hj; exact hj
    rw [← hu, Lib.bytesWorld_cell w e s j hj2]
    rw [bsOf_at hj2]
    simp [List.getD, hj2]
    rfl
  · rw [e] at hb; exact absurd hb.2 (Nat.lt_irrefl _)
theorem s_t2b {d T1 T2 e : Nat} {x : Operand} {s : ByteArray} (hd : Nat.blt d n = true) (h1 : P.underlying T1 = some .string) (h2 : P.underlying T2 = some (.slice e)) (h3 : P.underlying e = some (.int .u8)) (hx : ev fr x = some (.string s))
    (k : ∀ g c, WpL P n D ops rest Q ((d, .slice (some ⟨g, 0, none⟩) (QW s).length c) :: fr) (rdo g (Xh (QW s)) :: l)) : WpL P n D ops (⟨some d, .convert T1 T2 x, ty, pos, aft, none⟩ :: rest) Q fr l :=
  XC hd (σ := Nat × Nat) (fun q => .slice (some ⟨q.1, 0, none⟩) (QW s).length q.2) (fun q => rdo q.1 (Xh (QW s)) :: l) (fun a w U hh hs => ⟨(w.heap.size, grownCap w s.size 0 e), _, by rw [Xj]; simp [execOp, hh.ev hx, Lib.run_convert_string_bytes w T1 T2 e s h1 h2 h3], out_bytes hs e s⟩) fun q => k q.1 q.2
end
end Go.Proofs.YtggamdlpiejbiaaGreat
namespace Go.Proofs.YtggamdlpiejbiaaGreat
open Go.RowKit Go.Shelf


theorem fit_can {p C M : Int} (hf : Yt C M) (h : Can C M p) : X6 p C M := ⟨hf, h.1, fun n hn => (h.2.2 n hn).2⟩
theorem ZK {C M k : Int} (h : k ∈ QN C M) : Yt C M ∧ (1 ≤ k ∧ k ≤ 6) ∧ QO k = C ∧ ((k = 1 ∨ k = 4) → M = 1) := by
  unfold QN at h
  split at h
  · rename_i hf
    obtain ⟨i, hi, rfl⟩ := List.mem_map.1 h
    obtain ⟨h1, h2⟩ := List.mem_filter.1 hi
    unfold kP at h2
    simp only [Bool.and_eq_true, decide_eq_true_eq] at h2
    have h3 := List.mem_range.1 h1
    refine ⟨hf, by omega, ?_, by omega⟩
    have := hf.1
    unfold QO
    split <;> omega
  · simp at h
theorem good_sz {most : Int} {m : Img} (hmo : most ≤ 100) (h : GoodI most m) : (0 ≤ m.w * m.h ∧ m.w * m.h ≤ 10000) ∧ m.px.length ≤ 10000 := by
  obtain ⟨_, _, hw, hh, hl, _⟩ := h
  have h1 : m.w * m.h ≤ 100 * 100 := Int.mul_le_mul (by omega) (by omega) (by omega) (by omega)
  have h2 : 0 ≤ m.w * m.h := Int.mul_nonneg (by omega) (by omega)
  omega
theorem good_fits {most : Int} {m : Img} {k : Int} (hmo : most ≤ 100) (h : GoodI most m) (hk : k ∈ QN m.c m.m) : Xt k m.w m.h m.m ∧ (∀ p ∈ m.px, X6 p (QO k) m.m) ∧ XM m.c m.m m.w m.h m.px := by
  obtain ⟨hf, hk6, hc, h1⟩ := ZK hk
  have hz := good_sz hmo h
  obtain ⟨_, hm, hw, hh, hl, hp⟩ := h
  refine ⟨⟨hk6, by omega, by omega, hm, h1⟩, fun p hpp => by rw [hc]; exact fit_can hf (hp p hpp).1, ⟨by omega, by omega, by omega⟩, hl, fun p hpp => fit_can hf (hp p hpp).1⟩
/-- An image's bytes. -/
def ZT (m : Img) (k : Int) : List Int := hdW k m.w m.h m.m ++ (if k < 4 then Y8 k m.w 0 m.px else Q5 k m.w.toNat (Qg m.m) m.px m.h.toNat)
theorem hdW_len {K W H M : Int} (hK : K ≤ 6) (hW : W ≤ 100) (hH : H ≤ 100) (hM : M ≤ 65535) : (hdW K W H M).length ≤ 100000 := by
  have h1 := X9 K.toNat
  have h2 := X9 W.toNat
  have h3 := X9 H.toNat
  have h4 := X9 M.toNat
  unfold hdW
  simp only [List.length_append, List.length_cons, List.length_nil]
  split <;> simp only [List.length_append, List.length_cons, List.length_nil] <;> omega

end Go.Proofs.YtggamdlpiejbiaaGreat
namespace Go.Proofs.YtggamdlpiejbiaaGreat
open Go.RowKit Go.Shelf


theorem wrI_len {most : Int} {m : Img} {k : Int} (hmo : most ≤ 100) (hg : GoodI most m) (hk : k ∈ QN m.c m.m) : (ZT m k).length ≤ 3000000 := by
  obtain ⟨hMay, hfit, hfm⟩ := good_fits hmo hg hk
  obtain ⟨hz1, hz2⟩ := good_sz hmo hg
  have hM2 := hMay
  unfold Xt at hM2
  obtain ⟨_, hg2, hgw, hgh, hgl, _⟩ := id hg
  have hz6 := hdW_len (K := k) (W := m.w) (H := m.h) (M := m.m) (by omega) (by omega) (by omega) (by omega)
  have hWn : ((m.w.toNat : Nat) : Int) = m.w := by omega
  have hHn : ((m.h.toNat : Nat) : Int) = m.h := by omega
  have hpl : m.px.length = m.w.toNat * m.h.toNat := by
    have q : ((m.w.toNat * m.h.toNat : Nat) : Int) = m.w * m.h := by rw [Int.natCast_mul, hWn, hHn]
    omega
  have hwl := X0 (K := k) (w := Qg m.m) (QX m.m) hpl (fun p hp => by have := ZX (hfit p hp); omega) m.h.toNat (Nat.le_refl _)
  have hsb := XO (K := k) (W := m.w.toNat) (QX m.m) (by omega) (by omega)
  have hwl2 : (Q5 k m.w.toNat (Qg m.m) m.px m.h.toNat).length ≤ 24576 * 100 := by rw [hwl]; exact Nat.mul_le_mul hsb.2 (by omega)
  have h8 := Vd (K := k) (W := m.w) m.px 0
  unfold ZT
  rw [List.length_append]
  split <;> omega

end Go.Proofs.YtggamdlpiejbiaaGreat
namespace Go.Proofs.YtggamdlpiejbiaaGreat
open Go.RowKit Go.Shelf


theorem hdW_bd {K W H M : Int} : ∀ b ∈ hdW K W H M, 0 ≤ b ∧ b ≤ 255 := by
  intro b hb
  unfold hdW at hb
  have hd : ∀ n, b ∈ Xu n → 0 ≤ b ∧ b ≤ 255 := fun n h => by have := digs_bd n b h; omega
  simp only [List.mem_append, List.mem_singleton] at hb
  rcases hb with ((((((h | h) | h) | h) | h) | h) | h) | h
  · omega
  · exact hd _ h
  · omega
  · exact hd _ h
  · omega
  · exact hd _ h
  · omega
  · split at h
    · simp at h
    · rcases List.mem_append.1 h with h | h
      · exact hd _ h
      · have := List.mem_singleton.1 h; omega

end Go.Proofs.YtggamdlpiejbiaaGreat
namespace Go.Proofs.YtggamdlpiejbiaaGreat
open Go.RowKit Go.Shelf


theorem wrI_byte {most : Int} {m : Img} {k : Int} (_hmo : most ≤ 100) (hg : GoodI most m) (hk : k ∈ QN m.c m.m) : ∀ b ∈ ZT m k, 0 ≤ b ∧ b ≤ 255 := by
  intro b hb
  obtain ⟨_, _, hc, h4⟩ := ZK hk
  unfold ZT at hb
  rcases List.mem_append.1 hb with h | h
  · exact hdW_bd b h
  · split at h
    · exact wrL_byte _ _ b h
    · exact wrRaw_bd hg.2.1 (fun q => h4 (.inr q)) (fun p hp => by rw [hc]; exact (hg.2.2.2.2.2 p hp).1) b h
theorem s_bs4 {P : Program} {n : Cx} {D : List Deferred} {ops : Array Oper} {rest : List Oper} {Q : Post} {fr : Fr} {l : List HP} {ty : Nat} {pos : String} {aft : Array Edge} {d t e by_ : Nat} {z v v2 v3 v4 : Value} {x x2 x3 x4 : Operand} (hd : Nat.blt d n = true) [ht : SlT P t e 1 by_ z] (hx : ev fr x = some v) (hx2 : ev fr x2 = some v2) (hx3 : ev fr x3 = some v3) (hx4 : ev fr x4 = some v4) (hz : z.cells.size = 1)
    (hv : v.cells = #[v]) (hv2 : v2.cells = #[v2]) (hv3 : v3.cells = #[v3]) (hv4 : v4.cells = #[v4])
    (k : ∀ g, WpL P n D ops rest Q ((d, .slice (some ⟨g, 0, none⟩) 4 4) :: fr) (QB g [v, v2, v3, v4] e :: l)) : WpL P n D ops (⟨some d, .buildSlice t 4 #[(0, x), (1, x2), (2, x3), (3, x4)], ty, pos, aft, none⟩ :: rest) Q fr l :=
  s_bs (os := [(0, x), (1, x2), (2, x3), (3, x4)]) [v, v2, v3, v4] hd hz rfl (by simp [hv, hv2, hv3, hv4]) (by simp) (fun a hh => by simp [hh.ev hx, hh.ev hx2, hh.ev hx3, hh.ev hx4]) k

end Go.Proofs.YtggamdlpiejbiaaGreat
namespace Go.Proofs.YtggamdlpiejbiaaGreat
open Go.RowKit Go.Shelf


theorem bsOf_bd (s : ByteArray) : ∀ b ∈ QW s, 0 ≤ b ∧ b ≤ 255 := by
  intro b hb
  unfold QW at hb
  obtain ⟨x, _, rfl⟩ := List.mem_map.1 hb
  have := UInt8.toNat_lt x
  omega
end Go.Proofs.YtggamdlpiejbiaaGreat
namespace Go.Proofs.YtggamdlpiejbiaaGreat
open Go.RowKit Go.Shelf

def ZF (es : List Evt) : Int := ((es.filter fun x => decide (x.k = 3)).length : Int)
theorem cnt3_app (a b : List Evt) : ZF (a ++ b) = ZF a + ZF b := by unfold ZF; rw [List.filter_append, List.length_append]; push_cast; rfl
def EvOk (es : List Evt) : Prop := ∀ x ∈ es.tail, x.row = []
theorem psEvts_q (s : PS) (bd : Bd) (st e : Int) (row : List Int) : (YL s bd st e row).1.told = s.told ∧ (YL s bd st e row).1.imgs = s.imgs + ZF (YL s bd st e row).2 ∧ EvOk (YL s bd st e row).2 ∧ (YL s bd st e row).1.over = s.over := by
  unfold YL rowE doneE
  by_cases h1 : st = 1 <;> by_cases h2 : st = 2 <;> by_cases h3 : row = [] <;> simp [h1, h2, h3, ZF, EvOk]
  all_goals (subst h2; simp_all)
theorem psHeads_q (s : PS) (h : HS) : (ZB s h).1.told = s.told ∧ (ZB s h).1.imgs = s.imgs + ZF (ZB s h).2 ∧ EvOk (ZB s h).2 ∧ (ZB s h).1.over = s.over := by
  unfold ZB
  repeat' split
  all_goals simp [ZF, EvOk]
theorem psStep_q (l0 l1 l2 : Int) (s : PS) (c : Int) : (psStep l0 l1 l2 s c).1.told = s.told ∧ (psStep l0 l1 l2 s c).1.imgs = s.imgs + ZF (psStep l0 l1 l2 s c).2 ∧ EvOk (psStep l0 l1 l2 s c).2 ∧ (psStep l0 l1 l2 s c).1.over = s.over := by
  unfold psStep
  split
  · split
    · simp [ZF, EvOk]
    · exact psHeads_q _ _
  · split
    · exact psHeads_q _ _
    · unfold psBody
      split
      · simp [ZF, EvOk]
      · exact psEvts_q _ _ _ _ _
      · exact psEvts_q _ _ _ _ _
def aliveP (s : PS) : Prop := s.over = false ∧ s.e = 0
theorem dead_of {s : PS} (h : ¬ aliveP s) : s.over = true ∨ s.e ≠ 0 := by
  unfold aliveP at h
  by_cases he : s.e = 0
  · left; cases ho : s.over with
    | true => rfl
    | false => exact absurd ⟨ho, he⟩ h
  · exact .inr he
theorem psPut_q (l0 l1 l2 : Int) (s : PS) (c : Int) : ((YM l0 l1 l2 s c).2 ≠ [] → aliveP s) ∧ (aliveP (YM l0 l1 l2 s c).1 → aliveP s) ∧ (aliveP s → (YM l0 l1 l2 s c).1.told = s.told + 1) ∧ (YM l0 l1 l2 s c).1.imgs = s.imgs + ZF (YM l0 l1 l2 s c).2 ∧ EvOk (YM l0 l1 l2 s c).2 := by
  by_cases h : aliveP s
  · rw [psPut_ok _ _ _ h.1 h.2]
    have q := psStep_q l0 l1 l2 { s with told := s.told + 1 } c
    exact ⟨fun _ => h, fun _ => h, fun _ => q.1, q.2.1, q.2.2.1⟩
  · rw [psPut_dead _ _ _ (dead_of h)]
    exact ⟨fun q => absurd rfl q, fun q => absurd q h, fun q => absurd q h, by simp [ZF], by simp [EvOk]⟩
theorem Z3 (l0 l1 l2 : Int) : ∀ (bs : List Int) (s : PS), (Xo l0 l1 l2 s bs).1.imgs = s.imgs + ZF ((Xo l0 l1 l2 s bs).2.map (·.1))
  | [], s => by simp [Xo, ZF]
  | c :: bs, s => by
    rw [Zn]
    have q := psPut_q l0 l1 l2 s c
    have ih := Z3 l0 l1 l2 bs (YM l0 l1 l2 s c).1
    simp only [ZO, List.map_append, cnt3_app, List.map_map]
    rw [ih, q.2.2.2.1, show ((fun x : Evt × Int => x.1) ∘ fun x => (x, (YM l0 l1 l2 s c).1.told)) = id from rfl, List.map_id]
    omega
end Go.Proofs.YtggamdlpiejbiaaGreat
namespace Go.Proofs.YtggamdlpiejbiaaGreat
open Go.RowKit Go.Shelf
def okFs (P : Program) : Nat → List Field → Bool
  | _, [] => true
  | i, f :: fs => (f.name != "_") && (f.offset == i) && (match P.underlying f.type with | some (.int .i64) => true | _ => false) && P.plainKey f.type && okFs P (i + 1) fs
theorem run_eqFields {P : Program} (d : Nat) (us vs : List Int) (hl : us.length = vs.length) (w : World) : ∀ (fs : List Field) (i : Nat), i + fs.length = us.length → okFs P i fs = true → (Op.eqFields (d + 1) (QZ us).toArray (QZ vs).toArray fs).run P w = .ok (decide (us.drop i = vs.drop i)) w
  | [], i, hi, _ => by
    simp only [List.length_nil] at hi
    rw [List.drop_of_length_le (by omega), List.drop_of_length_le (by omega)]
    simp [Op.eqFields]
  | f :: fs, i, hi, hk => by
    simp only [List.length_cons] at hi
    simp only [okFs, Bool.and_eq_true, bne_iff_ne, beq_iff_eq] at hk
    obtain ⟨⟨⟨⟨h1, h2⟩, h3⟩, h4⟩, h5⟩ := hk
    have hu : P.underlying f.type = some (.int .i64) := by
      split at h3
      · assumption
      · cases h3
    have e1 : (part f.type (QZ us).toArray f.offset).run P w = .ok (.int .i64 (us[i]'(by omega))) w := run_part_plain w h4 (by rw [h2]; simp [QZ, List.getElem?_eq_getElem (show i < us.length by omega)])
    have e2 : (part f.type (QZ vs).toArray f.offset).run P w = .ok (.int .i64 (vs[i]'(by omega))) w := run_part_plain w h4 (by rw [h2]; simp [QZ, List.getElem?_eq_getElem (show i < vs.length by omega)])
    have ih := run_eqFields (P := P) d us vs hl w fs (i + 1) (by omega) h5
    unfold Op.eqFields
    rw [if_pos h1]
    simp only [Sem.run_bind, e1, e2, Result.andThen_ok, run_equalIn_int w d f.type .i64 .i64 _ _ hu]
    have d1 := List.drop_eq_getElem_cons (show i < us.length by omega)
    have d2 := List.drop_eq_getElem_cons (show i < vs.length by omega)
    by_cases hx : us[i]'(by omega) = vs[i]'(by omega)
    · rw [if_neg (by simp [hx]), ih]
      have q : us.drop (i + 1) = vs.drop (i + 1) ↔ us.drop i = vs.drop i := by
        rw [d1, d2, hx]
        exact ⟨fun e => by rw [e], fun e => (List.cons.inj e).2⟩
      rw [decide_eq_decide.2 q]
    · rw [if_pos (by simp [hx])]
      have q : ¬ us.drop i = vs.drop i := by
        rw [d1, d2]
        exact fun e => hx (List.cons.inj e).1
      rw [decide_eq_false q]
      simp
class AeqT (P : Program) (T : Nat) (k : outParam Nat) : Prop where
  hu : P.underlying T = some (.struct (P.fieldsOf T))
  st : P.stoodInHeld T = false
  gd : P.eqGuardType P.depth T = false
  ok : okFs P 0 (P.fieldsOf T).toList = true
  hk : (P.fieldsOf T).toList.length = k
section
variable {P : Program} {n : Cx} {D : List Deferred} {ops : Array Oper} {rest : List Oper} {Q : Post} {fr : Fr} {l : List HP} {ty : Nat} {pos : String} {aft : Array Edge}
theorem run_aeq {T k : Nat} (hT : AeqT P T k) (us vs : List Int) (h1 : us.length = k) (h2 : vs.length = k) (w : World) : (Op.equalIn 10000 T (.agg (QZ us).toArray) (.agg (QZ vs).toArray)).run P w = .ok (decide (us = vs)) w := by
  rw [run_equalIn_struct w 9999 T _ _ hT.hu hT.st]
  have := run_eqFields (P := P) 9998 us vs (by omega) w (P.fieldsOf T).toList 0 (by rw [hT.hk]; omega) hT.ok
  simpa using this
theorem s_aeq {d T T2 k : Nat} {x y : Operand} (us vs : List Int) (hd : Nat.blt d n = true) [hT : AeqT P T k] (hx : ev fr x = some (.agg (QZ us).toArray)) (hy : ev fr y = some (.agg (QZ vs).toArray)) (h1 : us.length = k) (h2 : vs.length = k)
    (kk : WpL P n D ops rest Q ((d, .bool (decide (us = vs))) :: fr) l) : WpL P n D ops (⟨some d, .binOp .eql T x y T2, ty, pos, aft, none⟩ :: rest) Q fr l :=
  WpL.val hd (fun A w _ hh _ => by
    simp only [execOp, hh.ev hx, hh.ev hy, Sem.run_bind, run_eqGuard_agg w .eql T x y _ _ hT.gd, Result.andThen_ok, run_eql_struct, run_aeq hT us vs h1 h2]
    simp) kk
end
end Go.Proofs.YtggamdlpiejbiaaGreat
namespace Go.Proofs.YtggamdlpiejbiaaGreat
open Go.RowKit Go.Shelf

instance : AeqT Tryz.prog 48 2 := ⟨by kernel_rfl, by kernel_rfl, by kernel_rfl, by kernel_rfl, by kernel_rfl⟩

theorem SameRowW_spec (As : List HP) (a b : Option Addr) (ca cb : Nat) (xs ys : List Int) (hx : RdsL As a (XA xs)) (hy : RdsL As b (XA ys)) (hl : xs.length ≤ 9223372036854775807) : Fn Tryz.prog 65 #[.slice a xs.length ca, .slice b ys.length cb] As (fun v l => v = .bool (decide (xs = ys)) ∧ l = As) := by
 refine Ql (vs := [.slice a xs.length ca, .slice b ys.length cb]) Tryz.func65 rfl Tryz.ntmps65 rfl (Qb (Qa (Qe rfl rfl (WpL.nil (Qb (Qb (Qa (Qc rfl rfl (QH rfl rfl (Qc rfl rfl (QH rfl rfl (Xc rfl rfl rfl ?_))))))))))))
 refine WpL.nil (Qk rfl (fun h0 => ?_) (fun h0 => ?_))
 ·refine Qb (Qa (Qe rfl rfl (WpL.nil (Qi ?_))))
  apply RetQ.mk
  ·exact (Res.one rfl rfl)
  ·exact ⟨congrArg Value.bool (df fun e => h0 (by rw [e])), rfl⟩
  ·exact Ent.refl _
 ·have hlen : xs.length = ys.length := by omega
  refine Wp.skip (Qb (Qb (Qa (Qe rfl rfl (WpL.nil (Wp.block ?_))))))
  refine Wp.loopD (σ := Nat) (fun k => k ≤ xs.length ∧ xs.take k = ys.take k) [4, 5, 11, 12, 13, 14, 15, 16, 17, 18, 19, 20, 21, 22, 23, 24, 25] (fun k => [(5, .int .i64 (k : Int))]) (fun _ => _) (fun k => xs.length - k) 0 ?_ (by repeat (first | exact FrLe.nil | refine FrLe.cons rfl ?_)) (Ent.refl _) ?_
  ·exact ⟨Nat.zero_le _, rfl⟩
  ·rintro k ⟨hk, htk⟩
   refine Qb (Qb (Qa (Qc rfl rfl (Qc rfl rfl (QH rfl rfl (Q4 rfl rfl rfl (WpL.nil (Qk rfl (fun h2 => ?_) (fun h2 => ?_)))))))))
   ·have hkx : k < xs.length := by omega
    have hky : k < ys.length := by omega
    refine Wp.skip (Qb (Wp.block ?_))
    refine Qb ?_
    apply QU mixed [⟨17, _, []⟩, ⟨18, _, []⟩, ⟨19, _, [0, 1]⟩, ⟨20, _, [2]⟩, ⟨21, _, []⟩, ⟨22, _, []⟩, ⟨23, _, [4, 5]⟩, ⟨24, _, [6]⟩, ⟨25, _, [3, 7]⟩] rfl
    ·refine AllObs.mk ?_ ?_
     ·exact Qc rfl rfl (Qn rfl)
     refine AllObs.mk ?_ ?_
     ·exact Qc rfl rfl (Qn rfl)
     refine AllObs.mk ?_ ?_
     ·refine Q2 k rfl rfl rfl hx (Ent.refl _) rfl (by omega) (by rw [XI]; exact hkx) ?_
      exact Qn rfl
     refine AllObs.mk ?_ ?_
     ·refine Q8 rfl rfl hx (Ent.refl _) (Yh xs hkx) ?_
      exact Qn rfl
     refine AllObs.mk ?_ ?_
     ·exact Qc rfl rfl (Qn rfl)
     refine AllObs.mk ?_ ?_
     ·exact Qc rfl rfl (Qn rfl)
     refine AllObs.mk ?_ ?_
     ·refine Q2 k rfl rfl rfl hy (Ent.refl _) rfl hky (by rw [XI]; exact hky) ?_
      exact Qn rfl
     refine AllObs.mk ?_ ?_
     ·refine Q8 rfl rfl hy (Ent.refl _) (Yh ys hky) ?_
      exact Qn rfl
     refine AllObs.mk ?_ ?_
     ·exact Xc rfl rfl rfl (Qn rfl)
     exact AllObs.nil
    ·refine Qk rfl (fun h3 => ?_) (fun h3 => ?_)
     ·refine Qb (Qa (Qe rfl rfl (WpL.nil (Qi ?_))))
      apply RetQ.mk
      ·exact (Res.one rfl rfl)
      ·exact ⟨congrArg Value.bool (df fun e => h3 (by subst e; rfl)), rfl⟩
      ·exact Ent.refl _
     ·refine Wp.skip (Qa (Qc rfl rfl (QE rfl rfl rfl (Qt (by omega) (by omega)) ?_)))
      refine Qe rfl rfl (WpL.nil (Qw (k + 1) ?_ ?_ (by ((repeat (first | exact Top.refl | refine Top.push rfl ?_)); done)) (by repeat (first | exact FrLe.nil | refine FrLe.cons rfl ?_)) ?_))
      ·refine ⟨by omega, ?_⟩
       rw [List.take_succ_eq_append_getElem hkx, List.take_succ_eq_append_getElem hky, htk, Classical.not_not.1 h3]
      ·omega
      ·exact Ent.refl _
   ·obtain rfl : k = xs.length := by omega
    have hxy : xs = ys := by rw [List.take_length, hlen, List.take_length] at htk; exact htk
    refine QJ (Qb (Qa (Qe rfl rfl (WpL.nil (Qi ?_)))))
    apply RetQ.mk
    ·exact (Res.one rfl rfl)
    ·exact ⟨congrArg Value.bool (dt hxy), rfl⟩
    ·exact Ent.refl _

end Go.Proofs.YtggamdlpiejbiaaGreat
namespace Go.Proofs.YtggamdlpiejbiaaGreat
open Go.RowKit Go.Shelf


def mC (x : Img) (a : Option Addr) (c : Nat) : List Value := [.int .i64 x.c, .int .i64 x.m, .int .i64 x.w, .int .i64 x.h, .slice a x.px.length c]
end Go.Proofs.YtggamdlpiejbiaaGreat
namespace Go.Proofs.YtggamdlpiejbiaaGreat
open Go.RowKit Go.Shelf

abbrev ImL := List (Img × Option Addr × Nat)
def mCs (La : ImL) : List Value := La.flatMap fun r => mC r.1 r.2.1 r.2.2
theorem YV (La : ImL) {k : Nat} (h : k < La.length) : ((mCs La).drop (k * 5)).take 5 = [.int .i64 La[k].1.c, .int .i64 La[k].1.m, .int .i64 La[k].1.w, .int .i64 La[k].1.h, .slice La[k].2.1 La[k].1.px.length La[k].2.2] := flat_seg (s := 5) (f := fun r : Img × Option Addr × Nat => mC r.1 r.2.1 r.2.2) (fun _ => rfl) La k h
theorem mCs_ne (La : ImL) {k : Nat} (h : k < La.length) : mCs La ≠ [] := fun q => by have := YV La h; rw [q] at this; simp at this
end Go.Proofs.YtggamdlpiejbiaaGreat
namespace Go.Proofs.YtggamdlpiejbiaaGreat
open Go.RowKit Go.Shelf

theorem Same03_true (As : List HP) (x : Img) (a b : Option Addr) (c c2 : Nat) (hx : RdsL As a (XA x.px)) (hy : RdsL As b (XA x.px)) (hl : x.px.length ≤ 9223372036854775807) : Fn Tryz.prog 83 #[.agg #[.int .i64 x.w, .int .i64 x.h, .slice a x.px.length c], .agg #[.int .i64 x.w, .int .i64 x.h, .slice b x.px.length c2]] As (fun v l => v = .bool true ∧ l = As) := by
 refine Ql (vs := [.agg #[.int .i64 x.w, .int .i64 x.h, .slice a x.px.length c], .agg #[.int .i64 x.w, .int .i64 x.h, .slice b x.px.length c2]]) Tryz.func83 rfl Tryz.ntmps83 rfl (Qb (Qa (QV rfl rfl rfl ?_)))
 intro g1
 refine QV rfl rfl rfl ?_
 intro g2
 refine Qe rfl rfl (WpL.nil (Qb (Qa (Qj (o2 := 0) rfl rfl rfl (Qo rfl rfl (by rfl) ?_)))))
 refine Qj (o2 := 0) rfl rfl rfl (Qo rfl rfl (by rfl) ?_)
 refine QK rfl rfl rfl (Qc rfl rfl (Qx (dj := 10) rfl (decide_eq_true rfl) ?_))
 refine Qf rfl rfl (Qj (o2 := 1) rfl rfl rfl (Qf rfl rfl (Qo rfl rfl (by rfl) ?_)))
 refine Qf rfl rfl (Qj (o2 := 1) rfl rfl rfl (Qf rfl rfl (Qo rfl rfl (by rfl) ?_)))
 refine Qf rfl rfl (QK rfl rfl rfl (Qs rfl rfl rfl (Qc rfl rfl (Qx (dj := 17) rfl (decide_eq_true rfl) ?_))))
 refine Qf rfl rfl (Qj (o2 := 2) rfl rfl rfl (Qf rfl rfl (Qo rfl rfl (by rfl) ?_)))
 refine Qf rfl rfl (Qj (o2 := 2) rfl rfl rfl (Qf rfl rfl (Qo rfl rfl (by rfl) ?_)))
 refine Qf rfl rfl (Qh rfl rfl (Take.skip (Take.skip Take.all)) (SameRowW_spec As a b c c2 x.px x.px hx hy hl) ?_)
 rintro _ _ ⟨rfl, rfl⟩
 refine Qs rfl rfl rfl (Qe rfl rfl (WpL.nil (Qi ?_)))
 apply RetQ.mk
 ·exact (Res.one rfl rfl)
 ·exact ⟨congrArg Value.bool (decide_eq_true rfl), rfl⟩
 ·exact (Take.app rfl).ent'

theorem Same10_true (As : List HP) (x : Img) (a b : Option Addr) (c c2 : Nat) (hx : RdsL As a (XA x.px)) (hy : RdsL As b (XA x.px)) (hl : x.px.length ≤ 9223372036854775807) : Fn Tryz.prog 40 #[.agg (mC x a c).toArray, .agg (mC x b c2).toArray] As (fun v l => v = .bool true ∧ l = As) := by
 refine Ql (vs := [.agg (mC x a c).toArray, .agg (mC x b c2).toArray]) Tryz.func40 rfl Tryz.ntmps40 rfl (Qb (Qa (QV rfl rfl rfl ?_)))
 intro g1
 refine QV rfl rfl rfl ?_
 intro g2
 refine Qe rfl rfl (WpL.nil (Qb (Qa (Qj (o2 := 2) rfl rfl rfl ?_))))
 refine QA (vs := [_, _, _]) rfl rfl rfl (by rfl) ?_
 refine Qj (o2 := 2) rfl rfl rfl ?_
 refine QA (vs := [_, _, _]) rfl rfl rfl (by rfl) ?_
 refine Qh rfl rfl (Take.skip (Take.skip Take.all)) (Same03_true As x a b c c2 hx hy hl) ?_
 rintro _ _ ⟨rfl, rfl⟩
 refine WpL.ent Ent.comm ?_
 simp only [Qr]
 refine Qe rfl rfl (WpL.nil (Qb (Qa (Qc rfl rfl (Qc rfl rfl (Qf rfl rfl (Qj (o2 := 0) rfl rfl rfl (Qf rfl rfl ?_))))))))
 refine QA (vs := [_, _]) rfl rfl rfl (by rfl) ?_
 refine Qf rfl rfl (Qj (o2 := 0) rfl rfl rfl (Qf rfl rfl ?_))
 refine QA (vs := [_, _]) rfl rfl rfl (by rfl) ?_
 refine Qf rfl rfl (s_aeq [x.c, x.m] [x.c, x.m] rfl rfl rfl rfl rfl (Qs rfl rfl rfl (Qe rfl rfl (WpL.nil (Qi ?_)))))
 apply RetQ.mk
 ·exact (Res.one rfl rfl)
 ·exact ⟨congrArg Value.bool (decide_eq_true rfl), rfl⟩
 ·exact Ent.drop (Ent.drop (Ent.refl _))

end Go.Proofs.YtggamdlpiejbiaaGreat
namespace Go.Proofs.YtggamdlpiejbiaaGreat
open Go.RowKit Go.Shelf

instance : AeqT Tryz.prog 98 4 := ⟨by kernel_rfl, by kernel_rfl, by kernel_rfl, by kernel_rfl, by kernel_rfl⟩

theorem kindsF_bad {C M : Int} (h : ¬ Yt C M) : QN C M = [] := if_neg h
theorem kindsF_3 {C M : Int} (h : Yt C M) (h3 : C = 3) : QN C M = [3, 6] := by
  subst h3
  rw [QN, if_pos h]
  have : kUp 3 M 7 = [3, 6] := by simp [kUp, kP, List.range_succ]
  exact this
theorem kindsF_1 {C M : Int} (h : Yt C M) (h3 : ¬ C = 3) (h1 : M = 1) : QN C M = [1, 2, 4, 5] := by
  subst h1
  rw [QN, if_pos h]
  simp [kUp, kP, List.range_succ, h3]
theorem kindsF_2 {C M : Int} (h : Yt C M) (h3 : ¬ C = 3) (h1 : ¬ M = 1) : QN C M = [2, 5] := by
  rw [QN, if_pos h]
  simp [kUp, kP, List.range_succ, h3, h1]

theorem ZV {g T m : Nat} {cs : List Value} {l F : List HP} (hm : cs.length = m) (h : m ≤ 1000) (he : Ent l (QB g cs T :: F)) : Ent l (QL T 1 (some ⟨g, 0, none⟩) m m cs :: F) := he.trans (Ent.own_blkS (by omega) (by omega))

theorem iKinds_spec (C M : Int) : Fn Tryz.prog 44 #[.agg #[.int .i64 C, .int .i64 M]] [] (fun v l => ∃ a c, v = .slice a (QN C M).length c ∧ l = [QL 3 1 a c (QN C M).length (QZ (QN C M))]) := by
 refine Ql (vs := [.agg #[.int .i64 C, .int .i64 M]]) Tryz.func44 rfl Tryz.ntmps44 rfl (Qb (Qa (QV rfl rfl rfl ?_)))
 intro g1
 refine Qe rfl rfl (WpL.nil (Qb (Wp.block ?_)))
 refine Qb (Qa ?_)
 refine QA (vs := [_, _]) rfl rfl rfl (by rfl) ?_
 refine Qh rfl rfl (by repeat' constructor) (Za _ _) ?_
 rintro _ _ ⟨rfl, rfl⟩
 simp only [Qr]
 refine XH rfl rfl (Qe rfl rfl (WpL.nil (Qk rfl (fun h0 => ?_) (fun h0 => ?_))))
 ·refine Qb (Qa (Qe rfl rfl (WpL.nil (Qi ?_))))
  apply RetQ.mk
  ·exact (Res.one rfl rfl)
  ·exact ⟨none, 0, by rw [kindsF_bad (by assumption)]; rfl, rfl⟩
  ·rw [kindsF_bad (by assumption)]
   exact Ent.own_nil (Ent.nil _)
 ·have hf := Classical.not_not.1 h0
  refine Qb (Qa (Qj (o2 := 0) rfl rfl rfl (Qo rfl rfl (by rfl) ?_)))
  refine QK rfl rfl rfl (Qe rfl rfl (WpL.nil (Qk rfl (fun h1 => ?_) (fun h1 => ?_))))
  ·refine Qb (Qa ?_)
   refine s_bs2 rfl rfl rfl rfl rfl rfl ?_
   intro gK
   refine Qe rfl rfl (WpL.nil (Qi ?_))
   apply RetQ.mk
   ·exact (Res.one rfl rfl)
   ·exact ⟨some ⟨gK, 0, none⟩, 2, by rw [kindsF_3 (by assumption) (by assumption)]; rfl, rfl⟩
   ·rw [kindsF_3 (by assumption) (by assumption)]
    exact ZV rfl (by decide) (Take.ent' (by repeat' constructor))
  ·refine Qb (Qa (Qj (o2 := 1) rfl rfl rfl (Qo rfl rfl (by rfl) ?_)))
   refine QK rfl rfl rfl (Qe rfl rfl (WpL.nil (Qk rfl (fun h2 => ?_) (fun h2 => ?_))))
   ·refine Qb (Qa ?_)
    refine s_bs4 rfl rfl rfl rfl rfl rfl rfl rfl rfl rfl ?_
    intro gK
    refine Qe rfl rfl (WpL.nil (Qi ?_))
    apply RetQ.mk
    ·exact (Res.one rfl rfl)
    ·exact ⟨some ⟨gK, 0, none⟩, 4, by rw [kindsF_1 (by assumption) (by assumption) (by assumption)]; rfl, rfl⟩
    ·rw [kindsF_1 (by assumption) (by assumption) (by assumption)]
     exact ZV rfl (by decide) (Take.ent' (by repeat' constructor))
   ·refine Wp.skip (Qb (Qa ?_))
    refine s_bs2 rfl rfl rfl rfl rfl rfl ?_
    intro gK
    refine Qe rfl rfl (WpL.nil (Qi ?_))
    apply RetQ.mk
    ·exact (Res.one rfl rfl)
    ·exact ⟨some ⟨gK, 0, none⟩, 2, by rw [kindsF_2 (by assumption) (by assumption) (by assumption)]; rfl, rfl⟩
    ·rw [kindsF_2 (by assumption) (by assumption) (by assumption)]
     exact ZV rfl (by decide) (Take.ent' (by repeat' constructor))

theorem sIndex_spec (As : List HP) (a : Option Addr) (c : Nat) (zs : List Int) (x : Int) (hA : RdsL As a (QZ zs)) (hl : zs.length ≤ 1000000000) : Fn Tryz.prog 147 #[.slice a zs.length c, .int .i64 x] As (fun v l => ∃ r : Int, v = .int .i64 r ∧ (0 ≤ r ↔ x ∈ zs) ∧ l = As) := by
 refine Ql (vs := [.slice a zs.length c, .int .i64 x]) Tryz.func147 rfl Tryz.ntmps147 rfl (Qb (Qa (Qe rfl rfl (WpL.nil (Qb (Qb (Qa (Qc rfl rfl (QH rfl rfl (Qc rfl rfl (WpL.nil (Wp.block ?_))))))))))))
 refine Wp.loopD (σ := Nat) (fun k => k ≤ zs.length ∧ x ∉ zs.take k) [4, 5, 8, 9, 10, 11, 12, 13, 14, 15, 16, 17, 18] (fun k => [(8, .int .i64 (k : Int))]) (fun _ => _) (fun k => zs.length - k) 0 ?_ (by repeat (first | exact FrLe.nil | refine FrLe.cons rfl ?_)) (Ent.refl _) ?_
 ·exact ⟨Nat.zero_le _, by simp⟩
 ·rintro k ⟨hk, hf⟩
  refine Qb (Qa (Q4 rfl rfl rfl (WpL.nil (Qb (Qk rfl (fun h1 => ?_) (fun h1 => ?_))))))
  ·have hlt : k < zs.length := by omega
   refine Wp.skip (Qb (Wp.block ?_))
   refine Qb (Qa (Qc rfl rfl (Qe rfl rfl (WpL.nil (Qb (Qa (Qc rfl rfl (Qc rfl rfl (Qc rfl rfl (Q2 k rfl rfl rfl hA (Ent.refl _) rfl (by omega) (by rw [Q1]; omega) ?_))))))))))
   refine Q8 rfl rfl hA (Ent.refl _) (Xm zs hlt) ?_
   refine QK rfl rfl rfl (WpL.nil (Qk rfl (fun h2 => ?_) (fun h2 => ?_)))
   ·refine Qb (Qa (Qc rfl rfl (Qe rfl rfl (WpL.nil (Qi ?_)))))
    apply RetQ.mk
    ·exact (Res.one rfl rfl)
    ·exact ⟨_, rfl, ⟨fun _ => h2 ▸ List.getElem_mem hlt, fun _ => by omega⟩, rfl⟩
    ·exact Ent.refl _
   ·refine Wp.skip (Qa (QE rfl rfl rfl (Qt (by omega) (by omega)) ?_))
    refine Qc rfl rfl (WpL.nil (Qw (k + 1) ?_ ?_ (by ((repeat (first | exact Top.refl | refine Top.push rfl ?_)); done)) (by repeat (first | exact FrLe.nil | refine FrLe.cons rfl ?_)) ?_))
    ·refine ⟨by omega, fun hp => ?_⟩
     rw [List.take_succ_eq_append_getElem hlt] at hp
     rcases List.mem_append.1 hp with hp | hp
     ·exact hf hp
     ·exact h2 (List.mem_singleton.1 hp)
    ·omega
    ·exact Ent.refl _
  ·refine QJ (Qb (Qa (Qe rfl rfl (WpL.nil (Qi ?_)))))
   apply RetQ.mk
   ·exact (Res.one rfl rfl)
   ·have hke : k = zs.length := by omega
    rw [hke, List.take_length] at hf
    exact ⟨_, rfl, ⟨fun h => by omega, fun h => absurd h hf⟩, rfl⟩
   ·exact Ent.refl _

theorem sContains_spec (As : List HP) (a : Option Addr) (c : Nat) (zs : List Int) (x : Int) (hA : RdsL As a (QZ zs)) (hl : zs.length ≤ 1000000000) : Fn Tryz.prog 92 #[.slice a zs.length c, .int .i64 x] As (fun v l => v = .bool (decide (x ∈ zs)) ∧ l = As) := by
 refine Ql (vs := [.slice a zs.length c, .int .i64 x]) Tryz.func92 rfl Tryz.ntmps92 rfl (Qb (Qa (Qe rfl rfl (WpL.nil (Qb (Qa (Qc rfl rfl (Qc rfl rfl (Qh rfl rfl Take.all (sIndex_spec As a c zs x hA hl) ?_)))))))))
 rintro _ _ ⟨ri, rfl, hri, rfl⟩
 rw [List.append_nil]
 refine s_ge rfl rfl rfl (Qe rfl rfl (WpL.nil (Qi ?_)))
 apply RetQ.mk
 ·exact (Res.one rfl rfl)
 ·exact ⟨congrArg Value.bool (decide_eq_decide.2 hri), rfl⟩
 ·exact Ent.refl _

theorem rcSized_spec (w h : Int) : Fn Tryz.prog 172 #[.int .i64 w, .int .i64 h] [] (fun v l => v = .bool (decide (Xr w h)) ∧ l = []) := by
 refine Ql (vs := [.int .i64 w, .int .i64 h]) Tryz.func172 rfl Tryz.ntmps172 rfl (Qb (Qa (Qe rfl rfl (WpL.nil (Qb (Qa (Qc rfl rfl (s_ge rfl rfl rfl (Qc rfl rfl (QG rfl rfl rfl (fun hg1 => ?_) (fun hg1 => ?_)))))))))))
 ·have hg1 := of_decide_eq_true hg1
  refine Qc rfl rfl (Qf rfl rfl (s_le rfl rfl rfl (Qs rfl rfl rfl (Qc rfl rfl (QG rfl rfl rfl (fun hg2 => ?_) (fun hg2 => ?_))))))
  ·have hg2 := of_decide_eq_true hg2
   refine Qc rfl rfl (Qf rfl rfl (s_ge rfl rfl rfl (Qs rfl rfl rfl (Qc rfl rfl (QG rfl rfl rfl (fun hg3 => ?_) (fun hg3 => ?_))))))
   ·have hg3 := of_decide_eq_true hg3
    refine Qc rfl rfl (Qf rfl rfl (s_le rfl rfl rfl (Qs rfl rfl rfl (Qc rfl rfl (QG rfl rfl rfl (fun hg4 => ?_) (fun hg4 => ?_))))))
    ·have hg4 := of_decide_eq_true hg4
     have hmb := sz_mul (w := w) (h := h) (by omega) (by omega)
     refine Qc rfl rfl (Qf rfl rfl (Qc rfl rfl (Qf rfl rfl (Xy rfl rfl rfl (Qt (by omega) (by omega)) ?_))))
     refine Qf rfl rfl (s_le rfl rfl rfl (Qs rfl rfl rfl (Qe rfl rfl (WpL.nil (Qi ?_)))))
     apply RetQ.mk
     ·exact (Res.one rfl rfl)
     ·exact ⟨congrArg Value.bool (decide_eq_decide.2 (by unfold Xr; omega)), rfl⟩
     ·exact Ent.refl _
    ·have hg4 := of_decide_eq_false hg4
     refine Qd rfl rfl rfl (by decide) (Qd rfl rfl rfl (by decide) (Qd rfl rfl rfl (by decide) (Qq rfl rfl rfl (Qe rfl rfl (WpL.nil (Qi ?_))))))
     apply RetQ.mk
     ·exact (Res.one rfl rfl)
     ·exact ⟨by rw [decide_eq_false (show ¬Xr w h by unfold Xr; omega)], rfl⟩
     ·exact Ent.refl _
   ·have hg3 := of_decide_eq_false hg3
    refine Qd rfl rfl rfl (by decide) (Qq rfl rfl rfl (Qc rfl rfl (Qd rfl rfl rfl (by decide) (Qd rfl rfl rfl (by decide) (Qd rfl rfl rfl (by decide) (Qd rfl rfl rfl (by decide) (Qq rfl rfl rfl (Qe rfl rfl (WpL.nil (Qi ?_))))))))))
    apply RetQ.mk
    ·exact (Res.one rfl rfl)
    ·exact ⟨by rw [decide_eq_false (show ¬Xr w h by unfold Xr; omega)], rfl⟩
    ·exact Ent.refl _
  ·have hg2 := of_decide_eq_false hg2
   refine Qd rfl rfl rfl (by decide) (Qq rfl rfl rfl (Qc rfl rfl (Qd rfl rfl rfl (by decide) (Qd rfl rfl rfl (by decide) (Qq rfl rfl rfl (Qc rfl rfl (Qd rfl rfl rfl (by decide) (Qd rfl rfl rfl (by decide) (Qd rfl rfl rfl (by decide) (Qd rfl rfl rfl (by decide) (Qq rfl rfl rfl (Qe rfl rfl ?_))))))))))))
   refine WpL.nil (Qi ?_)
   apply RetQ.mk
   ·exact (Res.one rfl rfl)
   ·exact ⟨by rw [decide_eq_false (show ¬Xr w h by unfold Xr; omega)], rfl⟩
   ·exact Ent.refl _
 ·have hg1 := of_decide_eq_false hg1
  refine Qd rfl rfl rfl (by decide) (Qq rfl rfl rfl (Qc rfl rfl (Qd rfl rfl rfl (by decide) (Qd rfl rfl rfl (by decide) (Qq rfl rfl rfl (Qc rfl rfl (Qd rfl rfl rfl (by decide) (Qd rfl rfl rfl (by decide) (Qq rfl rfl rfl (Qc rfl rfl (Qd rfl rfl rfl (by decide) (Qd rfl rfl rfl (by decide) ?_))))))))))))
  refine Qd rfl rfl rfl (by decide) (Qd rfl rfl rfl (by decide) (Qq rfl rfl rfl (Qe rfl rfl (WpL.nil (Qi ?_)))))
  apply RetQ.mk
  ·exact (Res.one rfl rfl)
  ·exact ⟨by rw [decide_eq_false (show ¬Xr w h by unfold Xr; omega)], rfl⟩
  ·exact Ent.refl _

theorem rcMay_spec (W H : Int) (a : Option Addr) (n c : Nat) : Fn Tryz.prog 129 #[.agg #[.int .i64 W, .int .i64 H, .slice a n c]] [] (fun v l => v = .bool (decide (Xr W H ∧ (n : Int) = W * H)) ∧ l = []) := by
 refine Ql (vs := [.agg #[.int .i64 W, .int .i64 H, .slice a n c]]) Tryz.func129 rfl Tryz.ntmps129 rfl (Qb (Qa (QV rfl rfl rfl ?_)))
 intro g1
 refine Qe rfl rfl (WpL.nil (Qb (Qa (Qj (o2 := 0) rfl rfl rfl (Qo rfl rfl (by rfl) ?_)))))
 refine Qj (o2 := 1) rfl rfl rfl (Qo rfl rfl (by rfl) ?_)
 refine Qh rfl rfl (by repeat' constructor) (rcSized_spec _ _) ?_
 rintro _ _ ⟨rfl, rfl⟩
 simp only [Qr]
 refine Qc rfl rfl (QG rfl rfl rfl (fun hg1 => ?_) (fun hg1 => ?_))
 ·have hg1 := of_decide_eq_true hg1
  have hsz2 := hg1
  unfold Xr at hsz2
  have hmb := sz_mul hsz2.1 hsz2.2.1
  refine Qj (o2 := 2) rfl rfl rfl (Qf rfl rfl (Qo rfl rfl (by rfl) ?_))
  refine Qf rfl rfl (QH rfl rfl (Qf rfl rfl (Qj (o2 := 0) rfl rfl rfl (Qf rfl rfl (Qo rfl rfl (by rfl) ?_)))))
  refine Qf rfl rfl (Qj (o2 := 1) rfl rfl rfl (Qf rfl rfl (Qo rfl rfl (by rfl) ?_)))
  refine Qf rfl rfl (Xy rfl rfl rfl (Qt (by omega) (by omega)) ?_)
  refine Qf rfl rfl (QK rfl rfl rfl (Qs rfl rfl rfl (Qe rfl rfl (WpL.nil (Qi ?_)))))
  apply RetQ.mk
  ·exact (Res.one rfl rfl)
  ·exact ⟨congrArg Value.bool (decide_eq_decide.2 ⟨fun q => ⟨hg1, q⟩, fun q => q.2⟩), rfl⟩
  ·exact Ent.nil _
 ·have hg1 := of_decide_eq_false hg1
  refine Qd rfl rfl rfl (by decide) (Qd rfl rfl rfl (by decide) (Qd rfl rfl rfl (by decide) (Qd rfl rfl rfl (by decide) (Qd rfl rfl rfl (by decide) (Qd rfl rfl rfl (by decide) (Qd rfl rfl rfl (by decide) (Qd rfl rfl rfl (by decide) (Qq rfl rfl rfl (Qe rfl rfl (WpL.nil (Qi ?_)))))))))))
  apply RetQ.mk
  ·exact (Res.one rfl rfl)
  ·exact ⟨by rw [decide_eq_false (fun q => hg1 q.1)], rfl⟩
  ·exact Ent.nil _

end Go.Proofs.YtggamdlpiejbiaaGreat
