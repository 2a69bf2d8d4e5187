/- Walks and plain laws, a part of the proof of PnmReads: every input that the law's guards let in, no condition beside. -/
import Derived.Test.YtggamdlpiejbiaaGreatM13
namespace Go.Proofs.YtggamdlpiejbiaaGreat
open Go.RowKit Go.Shelf


def RawH (K W H M : Int) : Prop := XY K W H M ∧ 4 ≤ K
theorem RawH.bd {K W H M : Int} (h : RawH K W H M) : (4 ≤ K ∧ K ≤ 6) ∧ (1 ≤ W ∧ W ≤ 4096) ∧ (1 ≤ H ∧ H ≤ 65536) ∧ (1 ≤ M ∧ M ≤ 65535) ∧ (K = 4 → M = 1) := by
  obtain ⟨h1, h2⟩ := h
  unfold XY at h1
  omega
theorem YY (K : Int) : QZ K = 1 ∨ QZ K = 3 := by unfold QZ; split <;> simp
theorem X7 {K : Int} {W w : Nat} (hw : w = 1 ∨ w = 2) (h1 : 1 ≤ W) (h2 : W ≤ 4096) : 1 ≤ QK K W w ∧ QK K W w ≤ 24576 := by
  have hch := YY K
  unfold QK
  split
  · omega
  · rcases hch with e | e <;> rw [e] <;> rcases hw with rfl | rfl <;> simp <;> omega
theorem strd_int {K : Int} {W w : Nat} (h : K ≠ 4) : ((QK K W w : Nat) : Int) = (W : Int) * QZ K * (w : Int) := by
  have hch := YY K
  unfold QK
  rw [if_neg h]
  push_cast
  rw [Int.toNat_of_nonneg (by omega)]

theorem Zw (K W H M : Int) : Fn Tryz.prog 145 #[.agg #[.int .i64 K, .int .i64 W, .int .i64 H, .int .i64 M]] [] (fun v l => v = .int .i64 ((Ql M : Nat) : Int) ∧ l = []) := by
 refine Qp (vs := [.agg #[.int .i64 K, .int .i64 W, .int .i64 H, .int .i64 M]]) Tryz.func145 rfl Tryz.ntmps145 rfl (Qb (Qa (Xd rfl rfl rfl ?_)))
 intro g1
 refine Qd rfl rfl (WpL.nil (Qb (Qb (Qa (Qj (o2 := 3) rfl rfl rfl (Qo rfl rfl (by rfl) ?_))))))
 refine XC rfl rfl rfl (WpL.nil (Qi rfl (fun h0 => ?_) (fun h0 => ?_)))
 ·refine Qb (Qa (Qd rfl rfl (WpL.nil (Qh ?_))))
  apply RetQ.mk
  ·exact (Res.one rfl rfl)
  ·exact ⟨by unfold Ql; (rw [if_pos (by omega)]; rfl), rfl⟩
  ·exact Ent.nil _
 ·refine Wp.skip (Qb (Qa (Qd rfl rfl (WpL.nil (Qh ?_)))))
  apply RetQ.mk
  ·exact (Res.one rfl rfl)
  ·exact ⟨by unfold Ql; (rw [if_neg (by omega)]; rfl), rfl⟩
  ·exact Ent.nil _

theorem Stride_spec (K : Int) (W : Nat) (H M : Int) (hR : RawH K (W : Int) H M) : Fn Tryz.prog 146 #[.agg #[.int .i64 K, .int .i64 (W : Int), .int .i64 H, .int .i64 M]] [] (fun v l => v = .int .i64 ((QK K W (Ql M) : Nat) : Int) ∧ l = []) := by
 have hb := hR.bd
 have hch := YY K
 have hw := Xg M
 have hm1 : 0 ≤ (W : Int) * QZ K ∧ (W : Int) * QZ K ≤ 12288 := by rcases hch with e | e <;> rw [e] <;> omega
 have hm2 : 0 ≤ (W : Int) * QZ K * ((Ql M : Nat) : Int) ∧ (W : Int) * QZ K * ((Ql M : Nat) : Int) ≤ 24576 := by rcases hw with e | e <;> rw [e] <;> omega
 refine Qp (vs := [.agg #[.int .i64 K, .int .i64 (W : Int), .int .i64 H, .int .i64 M]]) Tryz.func146 rfl Tryz.ntmps146 rfl (Qb (Qa (Xd rfl rfl rfl ?_)))
 intro g1
 refine Qd rfl rfl (WpL.nil (Qb (Wp.block ?_)))
 refine Qb (Qa ?_)
 refine QD (vs := [_, _, _, _]) rfl rfl rfl (by rfl) ?_
 refine Qk rfl rfl (by repeat' constructor) (Raw_spec _ _ _ _) ?_
 rintro _ _ ⟨rfl, rfl⟩
 simp only [Qx]
 refine Yr rfl rfl (Qd rfl rfl (WpL.nil (QC rfl (fun hn => hn (by omega)) ?_)))
 refine Qb (Qa (Qj (o2 := 0) rfl rfl rfl (Qo rfl rfl (by rfl) ?_)))
 refine QJ rfl rfl rfl (Qd rfl rfl (WpL.nil (Qi rfl (fun h1 => ?_) (fun h1 => ?_))))
 ·refine Qb (Qa (Qj (o2 := 1) rfl rfl rfl (Qo rfl rfl (by rfl) ?_)))
  refine Qk rfl rfl (by repeat' constructor) (Bytes_spec _ (by omega)) ?_
  rintro _ _ ⟨rfl, rfl⟩
  simp only [Qx]
  refine Qd rfl rfl (WpL.nil (Qh ?_))
  apply RetQ.mk
  ·exact (Res.one rfl rfl)
  ·exact ⟨by rw [show QK K W (Ql M) = (W + 7) / 8 from if_pos h1]; rfl, rfl⟩
  ·exact Ent.nil _
 ·refine Wp.skip (Qb ?_)
  apply Q0 mixed [⟨14, _, []⟩, ⟨15, _, [0]⟩, ⟨16, _, []⟩, ⟨17, _, [2]⟩, ⟨18, _, [3]⟩, ⟨19, _, [1, 4]⟩, ⟨20, _, []⟩, ⟨21, _, [6, 3]⟩, ⟨22, _, [5, 7]⟩, ⟨2, _, [8, 7, 0, 1, 2, 3, 4, 5, 6]⟩] rfl
  ·refine AllObs.mk ?_ ?_
   ·exact Qj (o2 := 1) rfl rfl rfl (Qm rfl)
   refine AllObs.mk ?_ ?_
   ·refine Qo rfl rfl (by rfl) ?_
    exact Qm rfl
   refine AllObs.mk ?_ ?_
   ·refine QD (vs := [_, _, _, _]) rfl rfl rfl (by rfl) ?_
    exact Qm rfl
   refine AllObs.mk ?_ ?_
   ·refine Qk rfl rfl (by repeat' constructor) (Y0 _ _ _ _ (by omega)) ?_
    rintro _ _ ⟨rfl, rfl⟩
    simp only [Qx]
    rw [show (if K % 3 = 0 then (3 : Int) else 1) = QZ K from rfl]
    exact WpL.nil ⟨rfl, rfl, rfl, by exact Ent.refl _⟩
   refine AllObs.mk ?_ ?_
   ·exact s_fv rfl rfl rfl (Qm rfl)
   refine AllObs.mk ?_ ?_
   ·refine XT rfl rfl rfl (Qq (by omega) (by omega)) ?_
    exact Qm rfl
   refine AllObs.mk ?_ ?_
   ·refine QD (vs := [_, _, _, _]) rfl rfl rfl (by rfl) ?_
    exact Qm rfl
   refine AllObs.mk ?_ ?_
   ·refine Qk rfl rfl (by repeat' constructor) (Zw _ _ _ _) ?_
    rintro _ _ ⟨rfl, rfl⟩
    simp only [Qx]
    exact WpL.nil ⟨rfl, rfl, rfl, by exact Ent.refl _⟩
   refine AllObs.mk ?_ ?_
   ·refine XT rfl rfl rfl (Qq (by omega) (by omega)) ?_
    exact Qm rfl
   refine AllObs.mk ?_ ?_
   ·exact Qd rfl rfl (Qm rfl)
   exact AllObs.nil
  ·refine Qh ?_
   apply RetQ.mk
   ·exact (Res.one rfl rfl)
   ·exact ⟨by rw [strd_int h1], rfl⟩
   ·exact Ent.nil _

end Go.Proofs.YtggamdlpiejbiaaGreat
namespace Go.Proofs.YtggamdlpiejbiaaGreat
open Go.RowKit Go.Shelf

theorem RawNew_spec (K : Int) (W : Nat) (H M : Int) (hR : RawH K (W : Int) H M) : Fn Tryz.prog 124 #[.agg #[.int .i64 K, .int .i64 (W : Int), .int .i64 H, .int .i64 M]] [] (fun v l => ∃ g g2 b0, (b0 : List Int).length = QK K W (Ql M) ∧ (∀ x ∈ b0, x = 0) ∧ v = .tuple #[.pointer (some ⟨g, 0, none⟩), .int .i64 0] ∧ l = [QF g [.int .i64 K, .int .i64 (W : Int), .int .i64 H, .int .i64 M, .slice (some ⟨g2, 0, none⟩) b0.length b0.length, .int .i64 0, .int .i64 0, .int .i64 0, .int .i64 0] 198, own 5 1 (some ⟨g2, 0, none⟩) b0.length b0.length (XJ b0)]) := by
 have hb := hR.bd
 have hch := YY K
 have hw := Xg M
 have hsb := X7 (K := K) (W := W) hw (by omega) (by omega)
 refine Qp (vs := [.agg #[.int .i64 K, .int .i64 (W : Int), .int .i64 H, .int .i64 M]]) Tryz.func124 rfl Tryz.ntmps124 rfl (Qb (Qa (Xd rfl rfl rfl ?_)))
 intro g1
 refine Qd rfl rfl (Qd rfl rfl (WpL.nil (Qb (Qb (Qa ?_)))))
 refine QD (vs := [_, _, _, _]) rfl rfl rfl (by rfl) ?_
 refine Qk rfl rfl (by repeat' constructor) (May_spec _ _ _ _) ?_
 rintro _ _ ⟨rfl, rfl⟩
 simp only [Qx]
 rw [decide_eq_true hR.1]
 refine ZD rfl rfl (Qc rfl rfl (Qg rfl rfl ?_))
 refine QD (vs := [_, _, _, _]) rfl rfl rfl (by rfl) ?_
 refine Qg rfl rfl (Qk rfl rfl (by repeat' constructor) (Raw_spec _ _ _ _) ?_)
 rintro _ _ ⟨rfl, rfl⟩
 simp only [Qx]
 refine Qg rfl rfl (Yr rfl rfl (Qv rfl rfl rfl (WpL.nil (QC rfl (fun hn => hn (by omega)) ?_))))
 refine Wp.skip (Qb ?_)
 apply Xe (fB := [QF g1 [.int .i64 K, .int .i64 (W : Int), .int .i64 H, .int .i64 M] 98]) mixed [(3, false), (1, false)] (by kernel_rfl)
 apply Q9 [⟨0, 12, _, [], true⟩, ⟨1, 13, _, [], false⟩, ⟨2, 14, _, [1], false⟩] [] [1, 2] [16, 17, 2, 3, 12] (.inl ⟨_, by repeat' constructor⟩) rfl rfl rfl (by kernel_rfl) rfl rfl rfl
 ·refine QR rfl rfl rfl rfl ?_ ?_
  ·refine QD (vs := [_, _, _, _]) rfl rfl rfl (by rfl) ?_
   exact Qm rfl
  refine AllF.cons rfl rfl rfl rfl ?_ ?_
  ·refine QD (vs := [_, _, _, _]) rfl rfl rfl (by rfl) ?_
   exact Qm rfl
  refine AllF.cons rfl rfl rfl rfl ?_ ?_
  ·refine Qk rfl rfl (by repeat' constructor) (Stride_spec _ _ _ _ hR) ?_
   rintro _ _ ⟨rfl, rfl⟩
   simp only [Qx]
   exact WpL.nil ⟨rfl, rfl, rfl, by exact Ent.refl _⟩
  exact AllF.nil
 ·refine s_mko (QK K W (Ql M)) rfl rfl rfl (by omega) (by omega) rfl ?_
  intro gB
  rw [u8s_zero]
  refine WpL.nil ⟨rfl, rfl, ?_⟩
  apply Q9 [⟨4, 16, _, [0, 3], false⟩] [0] [0, 4] [2, 3] (.inl ⟨_, by repeat' constructor⟩) rfl rfl rfl (by kernel_rfl) rfl rfl rfl
  ·refine AllF.cons rfl rfl rfl rfl ?_ ?_
   ·refine Xm rfl rfl ?_
    exact Qm rfl
   exact AllF.nil
  ·refine Xd rfl rfl rfl ?_
   intro g2
   refine WpL.nil ⟨rfl, rfl, ?_⟩
   apply GoR.nil [⟨6, 2, _, [0, 1, 2, 3, 4, 5], false⟩, ⟨7, 3, _, [0, 1, 2, 3, 4, 5, 6], false⟩] (.inr rfl) rfl rfl
   ·refine AllF.cons rfl rfl rfl rfl ?_ ?_
    ·exact Qd rfl rfl (Qm rfl)
    refine AllF.cons rfl rfl rfl rfl ?_ ?_
    ·exact Qd rfl rfl (Qm rfl)
    exact AllF.nil
   ·refine Qh ?_
    obtain ⟨b0, hb0e, hb0l⟩ : ∃ b0 : List Int, b0 = List.replicate (QK K W (Ql M)) 0 ∧ b0.length = QK K W (Ql M) := ⟨_, rfl, by simp⟩
    rw [← hb0e, ← hb0l]
    apply RetQ.mk
    ·exact (QT rfl rfl rfl)
    ·exact ⟨_, gB, b0, rfl, fun x hx => by rw [hb0e] at hx; exact (List.mem_replicate.1 hx).2, rfl, rfl⟩
    ·exact Qe (by repeat' constructor)

theorem RawSample_spec (K : Int) (W : Nat) (H M : Int) (_hR : RawH K (W : Int) H M) (g : Nat) (a1 : Option Addr) (c1 : Nat) (bs : List Int) (hbs : ∀ x ∈ bs, 0 ≤ x ∧ x ≤ 255) (hbl : bs.length ≤ 100000) (n rows last e : Int) (i : Nat) (hi : (i + 1) * Ql M ≤ bs.length) : Fn Tryz.prog 167 #[.pointer (some ⟨g, 0, none⟩), .int .i64 (i : Int)] [QF g [.int .i64 K, .int .i64 (W : Int), .int .i64 H, .int .i64 M, .slice a1 bs.length c1, .int .i64 n, .int .i64 rows, .int .i64 last, .int .i64 e] 198, own 5 1 a1 c1 bs.length (XJ bs)] (fun v l => v = .int .i64 (Yc (Ql M) bs i) ∧ l = [QF g [.int .i64 K, .int .i64 (W : Int), .int .i64 H, .int .i64 M, .slice a1 bs.length c1, .int .i64 n, .int .i64 rows, .int .i64 last, .int .i64 e] 198, own 5 1 a1 c1 bs.length (XJ bs)]) := by
 have hw := Xg M
 refine Qp (vs := [.pointer (some ⟨g, 0, none⟩), .int .i64 (i : Int)]) Tryz.func167 rfl Tryz.ntmps167 rfl ?_
 refine Qb (Qa (Qd rfl rfl (WpL.nil (Qb (Qb (Qa (Qc rfl rfl (Qt rfl rfl (Qj (o2 := 0) rfl rfl rfl ?_)))))))))
 refine QD (vs := [_, _, _, _]) rfl rfl rfl (by rfl) ?_
 refine Qk rfl rfl (by repeat' constructor) (Zw _ _ _ _) ?_
 rintro _ _ ⟨rfl, rfl⟩
 simp only [Qx]
 refine QJ rfl rfl rfl (WpL.nil (Qi rfl (fun h0 => ?_) (fun h0 => ?_)))
 ·have hw1 : Ql M = 1 := by omega
  rw [hw1] at hi
  have hlt : i < bs.length := by omega
  have hx := hbs _ (List.getElem_mem hlt)
  refine Qb (Qa (Qc rfl rfl (Qt rfl rfl (Qj (o2 := 4) rfl rfl rfl (Qo rfl rfl (by rfl) ?_)))))
  refine Qc rfl rfl (Xk i rfl rfl rfl Q5 (by exact Qe (by repeat' constructor)) rfl (by omega) (by rw [XA]; omega) ?_)
  refine Xp rfl rfl Q5 (by exact Qe (by repeat' constructor)) (Zn bs hlt) ?_
  refine Yj rfl Tryz.underlying5 rfl (Qq (by omega) (by omega)) ?_
  refine Qd rfl rfl (WpL.nil (Qh ?_))
  apply RetQ.mk
  ·exact (Res.one rfl rfl)
  ·exact ⟨by rw [hw1]; unfold Yc; rw [if_pos rfl, List.getElem?_eq_getElem hlt]; rfl, rfl⟩
  ·exact Ent.refl _
 ·have hw2 : Ql M = 2 := by omega
  rw [hw2] at hi
  have hlt : 2 * i < bs.length := by omega
  have hlt2 : 2 * i + 1 < bs.length := by omega
  have hx := hbs _ (List.getElem_mem hlt)
  have hx2 := hbs _ (List.getElem_mem hlt2)
  refine Wp.skip (Qb ?_)
  apply Q0 mixed [⟨19, _, []⟩, ⟨20, _, [0]⟩, ⟨21, _, [1]⟩, ⟨22, _, [2]⟩, ⟨23, _, []⟩, ⟨24, _, [4]⟩, ⟨25, _, [3, 5]⟩, ⟨26, _, [6]⟩, ⟨27, _, [7]⟩, ⟨28, _, [8]⟩, ⟨29, _, []⟩, ⟨30, _, [10]⟩, ⟨31, _, [11]⟩, ⟨32, _, [12]⟩, ⟨33, _, []⟩, ⟨34, _, [14]⟩, ⟨35, _, [15]⟩, ⟨36, _, [13, 16]⟩, ⟨37, _, [17]⟩, ⟨38, _, [18]⟩, ⟨39, _, [9, 19]⟩, ⟨4, _, [20, 0, 1, 2, 3, 4, 5, 6, 7, 8, 9, 10, 11, 12, 13, 14, 15, 16, 17, 18, 19]⟩] rfl
  ·refine AllObs.mk ?_ ?_
   ·exact Qc rfl rfl (Qm rfl)
   refine AllObs.mk ?_ ?_
   ·exact Qt rfl rfl (Qm rfl)
   refine AllObs.mk ?_ ?_
   ·exact Qj (o2 := 4) rfl rfl rfl (Qm rfl)
   refine AllObs.mk ?_ ?_
   ·refine Qo rfl rfl (by rfl) ?_
    exact Qm rfl
   refine AllObs.mk ?_ ?_
   ·exact Qc rfl rfl (Qm rfl)
   refine AllObs.mk ?_ ?_
   ·refine XT rfl rfl rfl (Qq (by omega) (by omega)) ?_
    exact Qm rfl
   refine AllObs.mk ?_ ?_
   ·refine Xk (2 * i) rfl rfl rfl Q5 (by exact Qe (by repeat' constructor)) (by omega) (by omega) (by rw [XA]; omega) ?_
    exact Qm rfl
   refine AllObs.mk ?_ ?_
   ·refine Xp rfl rfl Q5 (by exact Qe (by repeat' constructor)) (Zn bs hlt) ?_
    exact Qm rfl
   refine AllObs.mk ?_ ?_
   ·refine Yj rfl Tryz.underlying5 rfl (Qq (by omega) (by omega)) ?_
    exact Qm rfl
   refine AllObs.mk ?_ ?_
   ·refine s_shl 256 rfl rfl rfl (by decide) (Qq (by omega) (by omega)) ?_
    exact Qm rfl
   refine AllObs.mk ?_ ?_
   ·exact Qc rfl rfl (Qm rfl)
   refine AllObs.mk ?_ ?_
   ·exact Qt rfl rfl (Qm rfl)
   refine AllObs.mk ?_ ?_
   ·exact Qj (o2 := 4) rfl rfl rfl (Qm rfl)
   refine AllObs.mk ?_ ?_
   ·refine Qo rfl rfl (by rfl) ?_
    exact Qm rfl
   refine AllObs.mk ?_ ?_
   ·exact Qc rfl rfl (Qm rfl)
   refine AllObs.mk ?_ ?_
   ·refine XT rfl rfl rfl (Qq (by omega) (by omega)) ?_
    exact Qm rfl
   refine AllObs.mk ?_ ?_
   ·refine Qy rfl rfl rfl (Qq (by omega) (by omega)) ?_
    exact Qm rfl
   refine AllObs.mk ?_ ?_
   ·refine Xk (2 * i + 1) rfl rfl rfl Q5 (by exact Qe (by repeat' constructor)) (by omega) (by omega) (by rw [XA]; omega) ?_
    exact Qm rfl
   refine AllObs.mk ?_ ?_
   ·refine Xp rfl rfl Q5 (by exact Qe (by repeat' constructor)) (Zn bs hlt2) ?_
    exact Qm rfl
   refine AllObs.mk ?_ ?_
   ·refine Yj rfl Tryz.underlying5 rfl (Qq (by omega) (by omega)) ?_
    exact Qm rfl
   refine AllObs.mk ?_ ?_
   ·refine s_or (bs[2 * i]'hlt) 8 rfl rfl rfl rfl hx.1 (by simp only [IntKind.bits]; omega) hx2.1 (by omega) (by decide) (Qq (by omega) (by omega)) ?_
    exact Qm rfl
   refine AllObs.mk ?_ ?_
   ·exact Qd rfl rfl (Qm rfl)
   exact AllObs.nil
  ·refine Qh ?_
   apply RetQ.mk
   ·exact (Res.one rfl rfl)
   ·exact ⟨by rw [hw2]; unfold Yc; rw [if_neg (by decide), List.getElem?_eq_getElem hlt, List.getElem?_eq_getElem hlt2]; rfl, rfl⟩
   ·exact Ent.refl _

end Go.Proofs.YtggamdlpiejbiaaGreat
namespace Go.Proofs.YtggamdlpiejbiaaGreat
open Go.RowKit Go.Shelf


structure SmX where
  (k : Nat) (a : Option Addr) (c : Nat)
theorem YL (w : Nat) (b : List Int) : (YK w b).length = b.length / w := by simp [YK]
theorem smps_take (w : Nat) (b : List Int) {k : Nat} (h : k < b.length / w) : (YK w b).take k ++ [Yc w b k] = (YK w b).take (k + 1) := by
  rw [List.take_succ_eq_append_getElem (by rw [YL]; exact h)]
  simp [YK]
theorem Yz (ch : Nat) (l : List Int) : (YP ch l).length = l.length / ch := by simp [YP]
theorem Y3 (ch : Nat) (l : List Int) {k : Nat} (h : k < l.length / ch) : (YP ch l).take k ++ [(Xt ((l.drop (k * ch)).take ch)).1] = (YP ch l).take (k + 1) := by
  rw [List.take_succ_eq_append_getElem (by rw [Yz]; exact h)]
  simp [YP]
theorem Z4 (px : List Int) (L H : Nat) : ((Q4 px).drop (L * 1)).take ((H - L) * 1) = Q4 ((px.drop L).take (H - L)) := by simp [Q4, List.map_take, List.map_drop]
theorem strd_div {K : Int} {W w : Nat} (hw : w = 1 ∨ w = 2) (h : K ≠ 4) : QK K W w / w = W * (QZ K).toNat := by
  unfold QK
  rw [if_neg h, Nat.mul_div_cancel _ (by omega)]
theorem YJ {K : Int} {W w : Nat} {bs : List Int} (hw : w = 1 ∨ w = 2) (h : bs.length = QK K W w) : (YZ K W w bs).length = W := by
  have hch := YY K
  unfold YZ
  rw [Yz]
  split
  · rename_i h4
    have : (QZ K).toNat = 1 := by rw [h4]; rfl
    rw [this, ubits_len, Nat.div_one]
  · rename_i h4
    rw [YL, h, strd_div hw h4, Nat.mul_div_cancel _ (by omega)]

set_option maxHeartbeats 1000000 in
theorem RawRow_a (K : Int) (W : Nat) (H M : Int) (hR : RawH K (W : Int) H M) (g : Nat) (a1 : Option Addr) (c1 : Nat) (bs : List Int) (hbs : ∀ x ∈ bs, 0 ≤ x ∧ x ≤ 255) (hbl : bs.length ≤ 100000) (n rows last e : Int) (hst : bs.length = QK K W (Ql M)) (hbc : bs.length ≤ c1) (h4 : K = 4) : Fn Tryz.prog 168 #[.pointer (some ⟨g, 0, none⟩)] [QF g [.int .i64 K, .int .i64 (W : Int), .int .i64 H, .int .i64 M, .slice a1 bs.length c1, .int .i64 n, .int .i64 rows, .int .i64 last, .int .i64 e] 198, own 5 1 a1 c1 bs.length (XJ bs)] (fun v l => ∃ a3 c3, v = .slice a3 W c3 ∧ l = [QF g [.int .i64 K, .int .i64 (W : Int), .int .i64 H, .int .i64 M, .slice a1 bs.length c1, .int .i64 n, .int .i64 rows, .int .i64 last, .int .i64 e] 198, own 5 1 a1 c1 bs.length (XJ bs), own 92 1 a3 c3 W (Xy (YZ K W (Ql M) bs))]) := by
 have hb := hR.bd
 have hch := YY K
 have hw := Xg M
 have hsb := X7 (K := K) (W := W) hw (by omega) (by omega)
 have hqd := Nat.div_le_self bs.length (Ql M)
 have hq0 : 0 ≤ (bs.length : Int) / ((Ql M : Nat) : Int) := Int.ediv_nonneg (by omega) (by omega)
 refine Qp (vs := [.pointer (some ⟨g, 0, none⟩)]) Tryz.func168 rfl Tryz.ntmps168 rfl ?_
 refine Qb (Qa (Qd rfl rfl (WpL.nil (Qb (Qa (Qd rfl rfl (WpL.nil (Qb (Qb (Qa (Qc rfl rfl (Qt rfl rfl ?_))))))))))))
 refine Qj (o2 := 0) rfl rfl rfl (Qj (o2 := 0) rfl rfl rfl (Qo rfl rfl (by rfl) ?_))
 refine QJ rfl rfl rfl (WpL.nil (Q2 rfl h4 ?_))
 apply Xe (fB := []) mixed [(9, false)] (by kernel_rfl)
 apply Q9 [⟨0, 16, _, [], false⟩, ⟨1, 17, _, [0], false⟩, ⟨2, 18, _, [1], false⟩, ⟨3, 19, _, [2], false⟩, ⟨4, 20, _, [], false⟩, ⟨5, 21, _, [4], false⟩, ⟨6, 22, _, [5], false⟩, ⟨7, 23, _, [6], false⟩, ⟨8, 24, _, [7], false⟩] [] [0, 1, 2, 3, 4, 5, 6, 7, 8] [15, 26, 27, 3] (.inr rfl) rfl rfl rfl (by kernel_rfl) rfl rfl rfl
 ·refine AllF.cons rfl rfl rfl rfl ?_ ?_
  ·exact Qc rfl rfl (Qm rfl)
  refine AllF.cons rfl rfl rfl rfl ?_ ?_
  ·exact Qt rfl rfl (Qm rfl)
  refine AllF.cons rfl rfl rfl rfl ?_ ?_
  ·exact Qj (o2 := 4) rfl rfl rfl (Qm rfl)
  refine AllF.cons rfl rfl rfl rfl ?_ ?_
  ·refine Qo rfl rfl (by rfl) ?_
   exact Qm rfl
  refine AllF.cons rfl rfl rfl rfl ?_ ?_
  ·exact Qc rfl rfl (Qm rfl)
  refine AllF.cons rfl rfl rfl rfl ?_ ?_
  ·exact Qt rfl rfl (Qm rfl)
  refine AllF.cons rfl rfl rfl rfl ?_ ?_
  ·exact Qj (o2 := 0) rfl rfl rfl (Qm rfl)
  refine AllF.cons rfl rfl rfl rfl ?_ ?_
  ·exact Qj (o2 := 1) rfl rfl rfl (Qm rfl)
  refine AllF.cons rfl rfl rfl rfl ?_ ?_
  ·refine Qo rfl rfl (by rfl) ?_
   exact Qm rfl
  exact AllF.nil
 ·refine Qk rfl rfl (by repeat' constructor) (UnpackB_spec _ _ _ bs Q5 hbs (by omega) W (by omega) (by rw [hst]; exact if_pos h4) hbc) ?_
  rintro _ _ ⟨aL, cL, rfl, rfl⟩
  simp only [Qx]
  refine WpL.nil ⟨rfl, rfl, ?_⟩
  apply GoR.nil [⟨10, 15, _, [9], false⟩, ⟨11, 26, _, [10], false⟩, ⟨12, 27, _, [10], false⟩, ⟨13, 3, _, [0, 1, 2, 3, 4, 5, 6, 7, 8, 9, 10, 11], false⟩] (.inr rfl) rfl rfl
  ·refine AllF.cons rfl rfl rfl rfl ?_ ?_
   ·exact Qc rfl rfl (Qm rfl)
   refine AllF.cons rfl rfl rfl rfl ?_ ?_
   ·exact QM rfl rfl rfl (Qm rfl)
   refine AllF.cons rfl rfl rfl rfl ?_ ?_
   ·exact QM rfl rfl rfl (Qm rfl)
   refine AllF.cons rfl rfl rfl rfl ?_ ?_
   ·exact Qd rfl rfl (Qm rfl)
   exact AllF.nil
  ·refine Qb (Qa (X4 rfl ?_))
   intro gO
   refine WpL.nil (Qb (Qb (Qa (Qc rfl rfl (Qc rfl rfl (Qt rfl rfl (Qj (o2 := 0) rfl rfl rfl ?_)))))))
   refine QD (vs := [_, _, _, _]) rfl rfl rfl (by rfl) ?_
   refine Qk rfl rfl (by repeat' constructor) (Y0 _ _ _ _ (by omega)) ?_
   rintro _ _ ⟨rfl, rfl⟩
   simp only [Qx]
   rw [show (if K % 3 = 0 then (3 : Int) else 1) = (((QZ K).toNat : Nat) : Int) from by rw [Int.toNat_of_nonneg (by omega)]; rfl]
   have hrd : YZ K W (Ql M) bs = YP (QZ K).toNat (YT bs W) := by unfold YZ; rw [if_pos h4]
   obtain ⟨ls, hls⟩ : ∃ ls, ls = YT bs W := ⟨_, rfl⟩
   rw [← hls] at hrd ⊢
   have hll : ls.length = W := by rw [hls, ubits_len]
   have hlsl : W = W * (QZ K).toNat := by rw [h4]; exact (Nat.mul_one W).symm
   refine Y2 (T := 3) (xs := Q4 ls) (by repeat' constructor) (fun hlc => ?_)
   refine s_fv rfl rfl rfl (Qk rfl rfl (by repeat' constructor) (chunk_spec _ _ _ _ (by omega)) ?_)
   rintro _ _ ⟨gs, gn, rfl, rfl⟩
   simp only [Qx]
   refine WpL.nil (Wp.block ?_)
   refine Wp.rangeF (encs := fun k : Nat => [.slice (sla aL (k * (QZ K).toNat) ((k + 1) * (QZ K).toNat) 1) (QZ K).toNat (QZ K).toNat]) (xs := List.range W) (own := [QF gs [.slice aL (W) cL] 26, QF gn [.int .i64 (((QZ K).toNat : Nat) : Int)] 3]) (own' := [QF gs [.slice aL (W) cL] 26, QF gn [.int .i64 (((QZ K).toNat : Nat) : Int)] 3]) (m0 := [QF gO [.slice none 0 0] 49, own 3 1 aL cL (W) (Q4 ls), QF g [.int .i64 K, .int .i64 (W : Int), .int .i64 H, .int .i64 M, .slice a1 bs.length c1, .int .i64 n, .int .i64 rows, .int .i64 last, .int .i64 e] 198, own 5 1 a1 c1 bs.length (XJ bs), own 92 1 none 0 0 []]) rfl rfl (chunk_iter aL cL (W) (QZ K).toNat W (by omega) hlsl hlc (by omega) gs gn) (fun _ => rfl) rfl (fun k m => ∃ a9 c9, m = [QF gO [.slice a9 k c9] 49, own 3 1 aL cL (W) (Q4 ls), QF g [.int .i64 K, .int .i64 (W : Int), .int .i64 H, .int .i64 M, .slice a1 bs.length c1, .int .i64 n, .int .i64 rows, .int .i64 last, .int .i64 e] 198, own 5 1 a1 c1 bs.length (XJ bs), own 92 1 a9 c9 (k) (Xy ((YP (QZ K).toNat ls).take (k)))]) (fun _ _ _ => False) ?_ ?_ ?_ ?_ ?_
   ·exact ⟨none, 0, by rw [List.take_zero]; rfl⟩
   ·simp only [Qx]
    exact (Ent.own_nil (T := 92) (s := 1) (Ent.refl _)).trans (Qe (by repeat' constructor))
   ·intro y k hk m hm
    obtain ⟨a9, c9, rfl⟩ := hm
    rw [List.getElem_range]
    rw [List.length_range] at hk
    have hkc : k < ls.length / (QZ K).toNat := by rw [hll, hlsl, Nat.mul_div_cancel _ (by omega)]; exact hk
    have hks := Z6 k (QZ K).toNat
    have hkN1 : (k + 1) * (QZ K).toNat ≤ ls.length := by rw [hll, hlsl]; exact Nat.mul_le_mul_right _ hk
    have hRo : RdsL [own 3 1 aL cL (W) (Q4 ls)] aL (Q4 ls) := Q5
    have hRw := hRo.sla (k * (QZ K).toNat) ((k + 1) * (QZ K).toNat) ((k + 1) * (QZ K).toNat) 1 (Nat.le_refl _)
    rw [Z4, show (k + 1) * (QZ K).toNat - k * (QZ K).toNat = (QZ K).toNat by omega] at hRw
    obtain ⟨one, hone⟩ : ∃ one, one = (ls.drop (k * (QZ K).toNat)).take (QZ K).toNat := ⟨_, rfl⟩
    have hol : one.length = (QZ K).toNat := by rw [hone, List.length_take, List.length_drop]; omega
    rw [← hone] at hRw
    have hcs := Y3 (QZ K).toNat ls hkc
    rw [← hone] at hcs
    have hPk := Pack_spec [own 3 1 aL cL (W) (Q4 ls)] (sla aL (k * (QZ K).toNat) ((k + 1) * (QZ K).toNat) 1) (QZ K).toNat one hRw (by omega)
    rw [hol] at hPk
    refine Qa (Qd rfl rfl (WpL.nil (⟨rfl, rfl, ?_⟩)))
    refine Wp.block ?_
    refine Qb (Qa (Qc rfl rfl (Qk rfl rfl (by repeat' constructor) (hPk) ?_)))
    rintro _ _ ⟨rfl, rfl⟩
    simp only [Qx]
    refine Qc rfl rfl (QM rfl rfl rfl (QM rfl rfl rfl (Qd rfl rfl (Qd rfl rfl (WpL.nil (Qa (Qo rfl rfl (by rfl) ?_)))))))
    refine Qc rfl rfl ?_
    refine X5 rfl rfl rfl rfl ?_
    intro g2
    refine Xx rfl rfl rfl (by repeat' constructor) (by rfl) (by rfl) (by rfl) (by rfl) (by omega) (by omega) ?_
    intro a66 c66
    refine QO rfl rfl rfl (WpL.nil ?_)
    rw [YH, hcs]
    refine ⟨_, ⟨a66, c66, rfl⟩, ?_⟩
    exact Qe (by repeat' constructor)
   ·intro q1 m hm
    obtain ⟨a9, c9, rfl⟩ := hm
    rw [List.length_range]
    simp only [Qx]
    rw [List.take_of_length_le (by rw [Yz, hll]; exact Nat.div_le_of_le_mul (by rw [Nat.mul_comm]; exact Nat.le_of_eq hlsl)), ← hrd]
    refine Qb (Qa (Qo rfl rfl (by rfl) ?_))
    refine Qd rfl rfl (WpL.nil (Qh ?_))
    apply RetQ.mkR [q1] rfl (by repeat' constructor)
    ·exact (Res.one rfl rfl)
    ·exact ⟨a9, c9, rfl, rfl⟩
    ·exact Qe (by repeat' constructor)
   ·exact fun _ _ _ _ _ h => h.elim

set_option maxHeartbeats 1000000 in
theorem RawRow_b (K : Int) (W : Nat) (H M : Int) (hR : RawH K (W : Int) H M) (g : Nat) (a1 : Option Addr) (c1 : Nat) (bs : List Int) (hbs : ∀ x ∈ bs, 0 ≤ x ∧ x ≤ 255) (hbl : bs.length ≤ 100000) (n rows last e : Int) (hst : bs.length = QK K W (Ql M)) (_hbc : bs.length ≤ c1) (h4 : K ≠ 4) : Fn Tryz.prog 168 #[.pointer (some ⟨g, 0, none⟩)] [QF g [.int .i64 K, .int .i64 (W : Int), .int .i64 H, .int .i64 M, .slice a1 bs.length c1, .int .i64 n, .int .i64 rows, .int .i64 last, .int .i64 e] 198, own 5 1 a1 c1 bs.length (XJ bs)] (fun v l => ∃ a3 c3, v = .slice a3 W c3 ∧ l = [QF g [.int .i64 K, .int .i64 (W : Int), .int .i64 H, .int .i64 M, .slice a1 bs.length c1, .int .i64 n, .int .i64 rows, .int .i64 last, .int .i64 e] 198, own 5 1 a1 c1 bs.length (XJ bs), own 92 1 a3 c3 W (Xy (YZ K W (Ql M) bs))]) := by
 have hb := hR.bd
 have hch := YY K
 have hw := Xg M
 have hsb := X7 (K := K) (W := W) hw (by omega) (by omega)
 have hqd := Nat.div_le_self bs.length (Ql M)
 have hq0 : 0 ≤ (bs.length : Int) / ((Ql M : Nat) : Int) := Int.ediv_nonneg (by omega) (by omega)
 refine Qp (vs := [.pointer (some ⟨g, 0, none⟩)]) Tryz.func168 rfl Tryz.ntmps168 rfl ?_
 refine Qb (Qa (Qd rfl rfl (WpL.nil (Qb (Qa (Qd rfl rfl (WpL.nil (Qb (Qb (Qa (Qc rfl rfl (Qt rfl rfl ?_))))))))))))
 refine Qj (o2 := 0) rfl rfl rfl (Qj (o2 := 0) rfl rfl rfl (Qo rfl rfl (by rfl) ?_))
 refine QJ rfl rfl rfl (WpL.nil (QC rfl h4 (Qb ?_)))
 apply Q0 mixed [⟨28, _, []⟩, ⟨29, _, [0]⟩, ⟨30, _, [1]⟩, ⟨31, _, [2]⟩, ⟨32, _, [3]⟩, ⟨33, _, []⟩, ⟨34, _, [5]⟩, ⟨35, _, [6]⟩, ⟨36, _, [7]⟩, ⟨37, _, [8]⟩, ⟨38, _, [4, 9]⟩, ⟨39, _, []⟩] rfl
 ·refine AllObs.mk ?_ ?_
  ·exact Qc rfl rfl (Qm rfl)
  refine AllObs.mk ?_ ?_
  ·exact Qt rfl rfl (Qm rfl)
  refine AllObs.mk ?_ ?_
  ·exact Qj (o2 := 4) rfl rfl rfl (Qm rfl)
  refine AllObs.mk ?_ ?_
  ·refine Qo rfl rfl (by rfl) ?_
   exact Qm rfl
  refine AllObs.mk ?_ ?_
  ·exact QL rfl rfl (WpL.nil ⟨rfl, rfl, rfl, by exact Ent.refl _⟩)
  refine AllObs.mk ?_ ?_
  ·exact Qc rfl rfl (Qm rfl)
  refine AllObs.mk ?_ ?_
  ·exact Qt rfl rfl (Qm rfl)
  refine AllObs.mk ?_ ?_
  ·exact Qj (o2 := 0) rfl rfl rfl (Qm rfl)
  refine AllObs.mk ?_ ?_
  ·refine QD (vs := [_, _, _, _]) rfl rfl rfl (by rfl) ?_
   exact Qm rfl
  refine AllObs.mk ?_ ?_
  ·refine Qk rfl rfl (by repeat' constructor) (Zw _ _ _ _) ?_
   rintro _ _ ⟨rfl, rfl⟩
   simp only [Qx]
   exact WpL.nil ⟨rfl, rfl, rfl, by exact Ent.refl _⟩
  refine AllObs.mk ?_ ?_
  ·refine Y6 rfl rfl rfl (by omega) (by omega) (by rw [show (bs.length : Int) / ((Ql M : Nat) : Int) = ((bs.length / Ql M : Nat) : Int) from rfl]; exact Qq (by omega) (by omega)) ?_
   rw [show (bs.length : Int) / ((Ql M : Nat) : Int) = ((bs.length / Ql M : Nat) : Int) from rfl]
   exact Qm rfl
  refine AllObs.mk ?_ ?_
  ·exact Qc rfl rfl (Qm rfl)
  exact AllObs.nil
 ·refine Wp.block ?_
  refine Wp.loopD (σ := SmX) (fun z => z.k ≤ (bs.length / Ql M)) [3, 4, 39, 40, 41, 42, 43, 44, 45, 46, 47, 48] (fun z => [(39, .int .i64 (z.k : Int)), (3, .slice z.a z.k z.c)]) (fun z => own 3 1 z.a z.c z.k (Q4 ((YK (Ql M) bs).take z.k)) :: [QF g [.int .i64 K, .int .i64 (W : Int), .int .i64 H, .int .i64 M, .slice a1 bs.length c1, .int .i64 n, .int .i64 rows, .int .i64 last, .int .i64 e] 198, own 5 1 a1 c1 bs.length (XJ bs)]) (fun z => (bs.length / Ql M) - z.k) ⟨0, none, 0⟩ ?_ (by repeat (first | exact FrLe.nil | refine FrLe.cons rfl ?_)) ?_ ?_
  ·exact Nat.zero_le _
  ·exact Ent.own_nil (T := 3) (s := 1) (Ent.refl _)
  ·rintro ⟨k, aL, cL⟩ hk
   dsimp only at hk ⊢
   refine Qb (Qa (Xb rfl rfl rfl (WpL.nil (Qb (Qi rfl (fun h2 => ?_) (fun h2 => ?_))))))
   ·have hlt : k < (bs.length / Ql M) := by omega
    have hkw : (k + 1) * Ql M ≤ bs.length := Nat.le_trans (Nat.mul_le_mul_right _ hlt) (Nat.div_mul_le_self _ _)
    refine Wp.skip (Qb (Wp.block ?_))
    refine Qb (Qa (Qc rfl rfl (Qd rfl rfl (WpL.nil (Qa (Qc rfl rfl (Qc rfl rfl (Qc rfl rfl (Qk rfl rfl (by repeat' constructor) (RawSample_spec _ _ _ _ hR _ _ _ _ hbs (by omega) _ _ _ _ k hkw) ?_)))))))))
    rintro _ _ ⟨rfl, rfl⟩
    simp only [Qx]
    refine X5 rfl rfl rfl rfl ?_
    intro g1
    refine Xx rfl rfl rfl (by repeat' constructor) (by rfl) (by rfl) (by rfl) (by rfl) (by omega) (by omega) ?_
    intro a47 c47
    rw [XZ, smps_take _ _ hlt]
    refine Qd rfl rfl (WpL.nil (Qa (Qy rfl rfl rfl (Qq (by omega) (by omega)) ?_)))
    refine Qc rfl rfl (WpL.nil (Qr (⟨k + 1, a47, c47⟩ : SmX) ?_ ?_ (by ((repeat (first | exact Top.refl | refine Top.push rfl ?_)); done)) (by repeat (first | exact FrLe.nil | refine FrLe.cons rfl ?_)) ?_))
    ·simp only; omega
    ·simp only; omega
    ·exact Ent.refl _
   ·have hke : k = (bs.length / Ql M) := by omega
    subst hke
    rw [List.take_of_length_le (by rw [YL]; exact Nat.le_refl _)]
    refine QU (Qb (Qa (X4 rfl ?_)))
    intro gO
    refine WpL.nil (Qb (Qb (Qa (Qc rfl rfl (Qc rfl rfl (Qt rfl rfl (Qj (o2 := 0) rfl rfl rfl ?_)))))))
    refine QD (vs := [_, _, _, _]) rfl rfl rfl (by rfl) ?_
    refine Qk rfl rfl (by repeat' constructor) (Y0 _ _ _ _ (by omega)) ?_
    rintro _ _ ⟨rfl, rfl⟩
    simp only [Qx]
    rw [show (if K % 3 = 0 then (3 : Int) else 1) = (((QZ K).toNat : Nat) : Int) from by rw [Int.toNat_of_nonneg (by omega)]; rfl]
    have hrd : YZ K W (Ql M) bs = YP (QZ K).toNat (YK (Ql M) bs) := by unfold YZ; rw [if_neg h4]
    obtain ⟨ls, hls⟩ : ∃ ls, ls = YK (Ql M) bs := ⟨_, rfl⟩
    rw [← hls] at hrd ⊢
    have hll : ls.length = (bs.length / Ql M) := by rw [hls, YL]
    have hlsl : (bs.length / Ql M) = W * (QZ K).toNat := by rw [hst]; exact strd_div hw h4
    refine Y2 (T := 3) (xs := Q4 ls) (by repeat' constructor) (fun hlc => ?_)
    refine s_fv rfl rfl rfl (Qk rfl rfl (by repeat' constructor) (chunk_spec _ _ _ _ (by omega)) ?_)
    rintro _ _ ⟨gs, gn, rfl, rfl⟩
    simp only [Qx]
    refine WpL.nil (Wp.block ?_)
    refine Wp.rangeF (encs := fun k : Nat => [.slice (sla aL (k * (QZ K).toNat) ((k + 1) * (QZ K).toNat) 1) (QZ K).toNat (QZ K).toNat]) (xs := List.range W) (own := [QF gs [.slice aL ((bs.length / Ql M)) cL] 26, QF gn [.int .i64 (((QZ K).toNat : Nat) : Int)] 3]) (own' := [QF gs [.slice aL ((bs.length / Ql M)) cL] 26, QF gn [.int .i64 (((QZ K).toNat : Nat) : Int)] 3]) (m0 := [QF gO [.slice none 0 0] 49, own 3 1 aL cL ((bs.length / Ql M)) (Q4 ls), QF g [.int .i64 K, .int .i64 (W : Int), .int .i64 H, .int .i64 M, .slice a1 bs.length c1, .int .i64 n, .int .i64 rows, .int .i64 last, .int .i64 e] 198, own 5 1 a1 c1 bs.length (XJ bs), own 92 1 none 0 0 []]) rfl rfl (chunk_iter aL cL ((bs.length / Ql M)) (QZ K).toNat W (by omega) hlsl hlc (by omega) gs gn) (fun _ => rfl) rfl (fun k m => ∃ a9 c9, m = [QF gO [.slice a9 k c9] 49, own 3 1 aL cL ((bs.length / Ql M)) (Q4 ls), QF g [.int .i64 K, .int .i64 (W : Int), .int .i64 H, .int .i64 M, .slice a1 bs.length c1, .int .i64 n, .int .i64 rows, .int .i64 last, .int .i64 e] 198, own 5 1 a1 c1 bs.length (XJ bs), own 92 1 a9 c9 (k) (Xy ((YP (QZ K).toNat ls).take (k)))]) (fun _ _ _ => False) ?_ ?_ ?_ ?_ ?_
    ·exact ⟨none, 0, by rw [List.take_zero]; rfl⟩
    ·simp only [Qx]
     exact (Ent.own_nil (T := 92) (s := 1) (Ent.refl _)).trans (Qe (by repeat' constructor))
    ·intro y k hk m hm
     obtain ⟨a9, c9, rfl⟩ := hm
     rw [List.getElem_range]
     rw [List.length_range] at hk
     have hkc : k < ls.length / (QZ K).toNat := by rw [hll, hlsl, Nat.mul_div_cancel _ (by omega)]; exact hk
     have hks := Z6 k (QZ K).toNat
     have hkN1 : (k + 1) * (QZ K).toNat ≤ ls.length := by rw [hll, hlsl]; exact Nat.mul_le_mul_right _ hk
     have hRo : RdsL [own 3 1 aL cL ((bs.length / Ql M)) (Q4 ls)] aL (Q4 ls) := Q5
     have hRw := hRo.sla (k * (QZ K).toNat) ((k + 1) * (QZ K).toNat) ((k + 1) * (QZ K).toNat) 1 (Nat.le_refl _)
     rw [Z4, show (k + 1) * (QZ K).toNat - k * (QZ K).toNat = (QZ K).toNat by omega] at hRw
     obtain ⟨one, hone⟩ : ∃ one, one = (ls.drop (k * (QZ K).toNat)).take (QZ K).toNat := ⟨_, rfl⟩
     have hol : one.length = (QZ K).toNat := by rw [hone, List.length_take, List.length_drop]; omega
     rw [← hone] at hRw
     have hcs := Y3 (QZ K).toNat ls hkc
     rw [← hone] at hcs
     have hPk := Pack_spec [own 3 1 aL cL ((bs.length / Ql M)) (Q4 ls)] (sla aL (k * (QZ K).toNat) ((k + 1) * (QZ K).toNat) 1) (QZ K).toNat one hRw (by omega)
     rw [hol] at hPk
     refine Qa (Qd rfl rfl (WpL.nil (⟨rfl, rfl, ?_⟩)))
     refine Wp.block ?_
     refine Qb (Qa (Qc rfl rfl (Qk rfl rfl (by repeat' constructor) (hPk) ?_)))
     rintro _ _ ⟨rfl, rfl⟩
     simp only [Qx]
     refine Qc rfl rfl (QM rfl rfl rfl (QM rfl rfl rfl (Qd rfl rfl (Qd rfl rfl (WpL.nil (Qa (Qo rfl rfl (by rfl) ?_)))))))
     refine Qc rfl rfl ?_
     refine X5 rfl rfl rfl rfl ?_
     intro g3
     refine Xx rfl rfl rfl (by repeat' constructor) (by rfl) (by rfl) (by rfl) (by rfl) (by omega) (by omega) ?_
     intro a66 c66
     refine QO rfl rfl rfl (WpL.nil ?_)
     rw [YH, hcs]
     refine ⟨_, ⟨a66, c66, rfl⟩, ?_⟩
     exact Qe (by repeat' constructor)
    ·intro q1 m hm
     obtain ⟨a9, c9, rfl⟩ := hm
     rw [List.length_range]
     simp only [Qx]
     rw [List.take_of_length_le (by rw [Yz, hll]; exact Nat.div_le_of_le_mul (by rw [Nat.mul_comm]; exact Nat.le_of_eq hlsl)), ← hrd]
     refine Qb (Qa (Qo rfl rfl (by rfl) ?_))
     refine Qd rfl rfl (WpL.nil (Qh ?_))
     apply RetQ.mkR [q1] rfl (by repeat' constructor)
     ·exact (Res.one rfl rfl)
     ·exact ⟨a9, c9, rfl, rfl⟩
     ·exact Qe (by repeat' constructor)
    ·exact fun _ _ _ _ _ h => h.elim

end Go.Proofs.YtggamdlpiejbiaaGreat
