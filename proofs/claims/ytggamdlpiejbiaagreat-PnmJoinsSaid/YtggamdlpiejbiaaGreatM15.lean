/- Walks and plain laws, a part of the proof of PnmJoins: every input that the law's guards let in, no condition beside. -/
import Derived.Test.YtggamdlpiejbiaaGreatM14
namespace Go.Proofs.YtggamdlpiejbiaaGreat
open Go.RowKit Go.Shelf

theorem ZL (K : Int) (W : Nat) (H M : Int) (hR : RawH K (W : Int) H M) : Fn Tryz.prog 124 #[.agg #[.int .i64 K, .int .i64 (W : Int), .int .i64 H, .int .i64 M]] [] (fun v l => ∃ g g2 b0, (b0 : List Int).length = QF K W (Qg M) ∧ (∀ x ∈ b0, x = 0) ∧ v = .tuple #[.pointer (some ⟨g, 0, none⟩), .int .i64 0] ∧ l = [QA g [.int .i64 K, .int .i64 (W : Int), .int .i64 H, .int .i64 M, .slice (some ⟨g2, 0, none⟩) b0.length b0.length, .int .i64 0, .int .i64 0, .int .i64 0, .int .i64 0] 198, QG 5 1 (some ⟨g2, 0, none⟩) b0.length b0.length (Xr b0)]) := by
 have hb := hR.bd
 have hch := Y0 K
 have hw := Q2 M
 have hsb := XU (K := K) (W := W) hw (by omega) (by omega)
 refine Qk (vs := [.agg #[.int .i64 K, .int .i64 (W : Int), .int .i64 H, .int .i64 M]]) Tryz.func124 rfl Tryz.ntmps124 rfl (Qb (Qa (Q9 rfl rfl rfl ?_)))
 intro g1
 refine Qe rfl rfl (Qe rfl rfl (WpL.nil (Qb (Qb (Qa ?_)))))
 refine QI (vs := [_, _, _, _]) rfl rfl rfl (by rfl) ?_
 refine Qh rfl rfl (by repeat' constructor) (May_spec _ _ _ _) ?_
 rintro _ _ ⟨rfl, rfl⟩
 simp only [Qr]
 rw [decide_eq_true hR.1]
 refine Zq rfl rfl (Qc rfl rfl (Qf rfl rfl ?_))
 refine QI (vs := [_, _, _, _]) rfl rfl rfl (by rfl) ?_
 refine Qf rfl rfl (Qh rfl rfl (by repeat' constructor) (ZW _ _ _ _) ?_)
 rintro _ _ ⟨rfl, rfl⟩
 simp only [Qr]
 refine Qf rfl rfl (XN rfl rfl (Qs rfl rfl rfl (WpL.nil (Qz rfl (fun hn => hn (by omega)) ?_))))
 refine Wp.skip (Qb ?_)
 apply Xs (fB := [QA g1 [.int .i64 K, .int .i64 (W : Int), .int .i64 H, .int .i64 M] 98]) mixed [(3, false), (1, false)] (by kernel_rfl)
 apply Xk [⟨0, 12, _, [], true⟩, ⟨1, 13, _, [], false⟩, ⟨2, 14, _, [1], false⟩] [] [1, 2] [16, 17, 2, 3, 12] (.inl ⟨_, by repeat' constructor⟩) rfl rfl rfl (by kernel_rfl) rfl rfl rfl
 ·refine XQ rfl rfl rfl rfl ?_ ?_
  ·refine QI (vs := [_, _, _, _]) rfl rfl rfl (by rfl) ?_
   exact Qm rfl
  refine AllF.cons rfl rfl rfl rfl ?_ ?_
  ·refine QI (vs := [_, _, _, _]) rfl rfl rfl (by rfl) ?_
   exact Qm rfl
  refine AllF.cons rfl rfl rfl rfl ?_ ?_
  ·refine Qh rfl rfl (by repeat' constructor) (ZM _ _ _ _ hR) ?_
   rintro _ _ ⟨rfl, rfl⟩
   simp only [Qr]
   exact WpL.nil ⟨rfl, rfl, rfl, by exact Ent.refl _⟩
  exact AllF.nil
 ·refine s_mko (QF K W (Qg M)) rfl rfl rfl (by omega) (by omega) rfl ?_
  intro gB
  rw [u8s_zero]
  refine WpL.nil ⟨rfl, rfl, ?_⟩
  apply Xk [⟨4, 16, _, [0, 3], false⟩] [0] [0, 4] [2, 3] (.inl ⟨_, by repeat' constructor⟩) rfl rfl rfl (by kernel_rfl) rfl rfl rfl
  ·refine AllF.cons rfl rfl rfl rfl ?_ ?_
   ·refine YI rfl rfl ?_
    exact Qm rfl
   exact AllF.nil
  ·refine Q9 rfl rfl rfl ?_
   intro g2
   refine WpL.nil ⟨rfl, rfl, ?_⟩
   apply GoR.nil [⟨6, 2, _, [0, 1, 2, 3, 4, 5], false⟩, ⟨7, 3, _, [0, 1, 2, 3, 4, 5, 6], false⟩] (.inr rfl) rfl rfl
   ·refine AllF.cons rfl rfl rfl rfl ?_ ?_
    ·exact Qe rfl rfl (Qm rfl)
    refine AllF.cons rfl rfl rfl rfl ?_ ?_
    ·exact Qe rfl rfl (Qm rfl)
    exact AllF.nil
   ·refine Qi ?_
    obtain ⟨b0, hb0e, hb0l⟩ : ∃ b0 : List Int, b0 = List.replicate (QF K W (Qg M)) 0 ∧ b0.length = QF K W (Qg M) := ⟨_, rfl, by simp⟩
    rw [← hb0e, ← hb0l]
    apply RetQ.mk
    ·exact (QB rfl rfl rfl)
    ·exact ⟨_, gB, b0, rfl, fun x hx => by rw [hb0e] at hx; exact (List.mem_replicate.1 hx).2, rfl, rfl⟩
    ·exact Take.ent' (by repeat' constructor)

theorem RawSample_spec (K : Int) (W : Nat) (H M : Int) (_hR : RawH K (W : Int) H M) (g : Nat) (a1 : Option Addr) (c1 : Nat) (bs : List Int) (hbs : ∀ x ∈ bs, 0 ≤ x ∧ x ≤ 255) (hbl : bs.length ≤ 100000) (n rows last e : Int) (i : Nat) (hi : (i + 1) * Qg M ≤ bs.length) : Fn Tryz.prog 167 #[.pointer (some ⟨g, 0, none⟩), .int .i64 (i : Int)] [QA g [.int .i64 K, .int .i64 (W : Int), .int .i64 H, .int .i64 M, .slice a1 bs.length c1, .int .i64 n, .int .i64 rows, .int .i64 last, .int .i64 e] 198, QG 5 1 a1 c1 bs.length (Xr bs)] (fun v l => v = .int .i64 (Xu (Qg M) bs i) ∧ l = [QA g [.int .i64 K, .int .i64 (W : Int), .int .i64 H, .int .i64 M, .slice a1 bs.length c1, .int .i64 n, .int .i64 rows, .int .i64 last, .int .i64 e] 198, QG 5 1 a1 c1 bs.length (Xr bs)]) := by
 have hw := Q2 M
 refine Qk (vs := [.pointer (some ⟨g, 0, none⟩), .int .i64 (i : Int)]) Tryz.func167 rfl Tryz.ntmps167 rfl ?_
 refine Qb (Qa (Qe rfl rfl (WpL.nil (Qb (Qb (Qa (Qc rfl rfl (Qq rfl rfl (Qj (o2 := 0) rfl rfl rfl ?_)))))))))
 refine QI (vs := [_, _, _, _]) rfl rfl rfl (by rfl) ?_
 refine Qh rfl rfl (by repeat' constructor) (YW _ _ _ _) ?_
 rintro _ _ ⟨rfl, rfl⟩
 simp only [Qr]
 refine QN rfl rfl rfl (WpL.nil (Ql rfl (fun h0 => ?_) (fun h0 => ?_)))
 ·have hw1 : Qg M = 1 := by omega
  rw [hw1] at hi
  have hlt : i < bs.length := by omega
  have hx := hbs _ (List.getElem_mem hlt)
  refine Qb (Qa (Qc rfl rfl (Qq rfl rfl (Qj (o2 := 4) rfl rfl rfl (Qo rfl rfl (by rfl) ?_)))))
  refine Qc rfl rfl (Q4 i rfl rfl rfl QE (by exact Take.ent' (by repeat' constructor)) rfl (by omega) (by rw [Xa]; omega) ?_)
  refine Q5 rfl rfl QE (by exact Take.ent' (by repeat' constructor)) (Zn bs hlt) ?_
  refine Yg rfl Tryz.underlying5 rfl (Qu (by omega) (by omega)) ?_
  refine Qe rfl rfl (WpL.nil (Qi ?_))
  apply RetQ.mk
  ·exact (Res.one rfl rfl)
  ·exact ⟨by rw [hw1]; unfold Xu; rw [if_pos rfl, List.getElem?_eq_getElem hlt]; rfl, rfl⟩
  ·exact Ent.refl _
 ·have hw2 : Qg M = 2 := by omega
  rw [hw2] at hi
  have hlt : 2 * i < bs.length := by omega
  have hlt2 : 2 * i + 1 < bs.length := by omega
  have hx := hbs _ (List.getElem_mem hlt)
  have hx2 := hbs _ (List.getElem_mem hlt2)
  refine Wp.skip (Qb ?_)
  apply Q0 mixed [⟨19, _, []⟩, ⟨20, _, [0]⟩, ⟨21, _, [1]⟩, ⟨22, _, [2]⟩, ⟨23, _, []⟩, ⟨24, _, [4]⟩, ⟨25, _, [3, 5]⟩, ⟨26, _, [6]⟩, ⟨27, _, [7]⟩, ⟨28, _, [8]⟩, ⟨29, _, []⟩, ⟨30, _, [10]⟩, ⟨31, _, [11]⟩, ⟨32, _, [12]⟩, ⟨33, _, []⟩, ⟨34, _, [14]⟩, ⟨35, _, [15]⟩, ⟨36, _, [13, 16]⟩, ⟨37, _, [17]⟩, ⟨38, _, [18]⟩, ⟨39, _, [9, 19]⟩, ⟨4, _, [20, 0, 1, 2, 3, 4, 5, 6, 7, 8, 9, 10, 11, 12, 13, 14, 15, 16, 17, 18, 19]⟩] rfl
  ·refine AllObs.mk ?_ ?_
   ·exact Qc rfl rfl (Qm rfl)
   refine AllObs.mk ?_ ?_
   ·exact Qq rfl rfl (Qm rfl)
   refine AllObs.mk ?_ ?_
   ·exact Qj (o2 := 4) rfl rfl rfl (Qm rfl)
   refine AllObs.mk ?_ ?_
   ·refine Qo rfl rfl (by rfl) ?_
    exact Qm rfl
   refine AllObs.mk ?_ ?_
   ·exact Qc rfl rfl (Qm rfl)
   refine AllObs.mk ?_ ?_
   ·refine XK rfl rfl rfl (Qu (by omega) (by omega)) ?_
    exact Qm rfl
   refine AllObs.mk ?_ ?_
   ·refine Q4 (2 * i) rfl rfl rfl QE (by exact Take.ent' (by repeat' constructor)) (by omega) (by omega) (by rw [Xa]; omega) ?_
    exact Qm rfl
   refine AllObs.mk ?_ ?_
   ·refine Q5 rfl rfl QE (by exact Take.ent' (by repeat' constructor)) (Zn bs hlt) ?_
    exact Qm rfl
   refine AllObs.mk ?_ ?_
   ·refine Yg rfl Tryz.underlying5 rfl (Qu (by omega) (by omega)) ?_
    exact Qm rfl
   refine AllObs.mk ?_ ?_
   ·refine s_shl 256 rfl rfl rfl (by decide) (Qu (by omega) (by omega)) ?_
    exact Qm rfl
   refine AllObs.mk ?_ ?_
   ·exact Qc rfl rfl (Qm rfl)
   refine AllObs.mk ?_ ?_
   ·exact Qq rfl rfl (Qm rfl)
   refine AllObs.mk ?_ ?_
   ·exact Qj (o2 := 4) rfl rfl rfl (Qm rfl)
   refine AllObs.mk ?_ ?_
   ·refine Qo rfl rfl (by rfl) ?_
    exact Qm rfl
   refine AllObs.mk ?_ ?_
   ·exact Qc rfl rfl (Qm rfl)
   refine AllObs.mk ?_ ?_
   ·refine XK rfl rfl rfl (Qu (by omega) (by omega)) ?_
    exact Qm rfl
   refine AllObs.mk ?_ ?_
   ·refine QD rfl rfl rfl (Qu (by omega) (by omega)) ?_
    exact Qm rfl
   refine AllObs.mk ?_ ?_
   ·refine Q4 (2 * i + 1) rfl rfl rfl QE (by exact Take.ent' (by repeat' constructor)) (by omega) (by omega) (by rw [Xa]; omega) ?_
    exact Qm rfl
   refine AllObs.mk ?_ ?_
   ·refine Q5 rfl rfl QE (by exact Take.ent' (by repeat' constructor)) (Zn bs hlt2) ?_
    exact Qm rfl
   refine AllObs.mk ?_ ?_
   ·refine Yg rfl Tryz.underlying5 rfl (Qu (by omega) (by omega)) ?_
    exact Qm rfl
   refine AllObs.mk ?_ ?_
   ·refine s_or (bs[2 * i]'hlt) 8 rfl rfl rfl rfl hx.1 (by simp only [IntKind.bits]; omega) hx2.1 (by omega) (by decide) (Qu (by omega) (by omega)) ?_
    exact Qm rfl
   refine AllObs.mk ?_ ?_
   ·exact Qe rfl rfl (Qm rfl)
   exact AllObs.nil
  ·refine Qi ?_
   apply RetQ.mk
   ·exact (Res.one rfl rfl)
   ·exact ⟨by rw [hw2]; unfold Xu; rw [if_neg (by decide), List.getElem?_eq_getElem hlt, List.getElem?_eq_getElem hlt2]; rfl, rfl⟩
   ·exact Ent.refl _

end Go.Proofs.YtggamdlpiejbiaaGreat
namespace Go.Proofs.YtggamdlpiejbiaaGreat
open Go.RowKit Go.Shelf


structure SmX where
  (k : Nat) (a : Option Addr) (c : Nat)
theorem Z4 (w : Nat) (b : List Int) : (Zw w b).length = b.length / w := by simp [Zw]
theorem smps_take (w : Nat) (b : List Int) {k : Nat} (h : k < b.length / w) : (Zw w b).take k ++ [Xu w b k] = (Zw w b).take (k + 1) := by
  rw [List.take_succ_eq_append_getElem (by rw [Z4]; exact h)]
  simp [Zw]
theorem Vd (ch : Nat) (l : List Int) : (Y1 ch l).length = l.length / ch := by simp [Y1]
theorem chunkP_snoc (ch : Nat) (l : List Int) {k : Nat} (h : k < l.length / ch) : (Y1 ch l).take k ++ [(Xx ((l.drop (k * ch)).take ch)).1] = (Y1 ch l).take (k + 1) := by
  rw [List.take_succ_eq_append_getElem (by rw [Vd]; exact h)]
  simp [Y1]
theorem ints_sub (px : List Int) (L H : Nat) : ((QY px).drop (L * 1)).take ((H - L) * 1) = QY ((px.drop L).take (H - L)) := by simp [QY, List.map_take, List.map_drop]
theorem strd_div {K : Int} {W w : Nat} (hw : w = 1 ∨ w = 2) (h : K ≠ 4) : QF K W w / w = W * (QW K).toNat := by
  unfold QF
  rw [if_neg h, Nat.mul_div_cancel _ (by omega)]
theorem Y6 {K : Int} {W w : Nat} {bs : List Int} (hw : w = 1 ∨ w = 2) (h : bs.length = QF K W w) : (Yw K W w bs).length = W := by
  have hch := Y0 K
  unfold Yw
  rw [Vd]
  split
  · rename_i h4
    have : (QW K).toNat = 1 := by rw [h4]; rfl
    rw [this, ubits_len, Nat.div_one]
  · rename_i h4
    rw [Z4, h, strd_div hw h4, Nat.mul_div_cancel _ (by omega)]

set_option maxHeartbeats 1000000 in
theorem RawRow_a (K : Int) (W : Nat) (H M : Int) (hR : RawH K (W : Int) H M) (g : Nat) (a1 : Option Addr) (c1 : Nat) (bs : List Int) (hbs : ∀ x ∈ bs, 0 ≤ x ∧ x ≤ 255) (hbl : bs.length ≤ 100000) (n rows last e : Int) (hst : bs.length = QF K W (Qg M)) (hbc : bs.length ≤ c1) (h4 : K = 4) : Fn Tryz.prog 168 #[.pointer (some ⟨g, 0, none⟩)] [QA g [.int .i64 K, .int .i64 (W : Int), .int .i64 H, .int .i64 M, .slice a1 bs.length c1, .int .i64 n, .int .i64 rows, .int .i64 last, .int .i64 e] 198, QG 5 1 a1 c1 bs.length (Xr bs)] (fun v l => ∃ a3 c3, v = .slice a3 W c3 ∧ l = [QA g [.int .i64 K, .int .i64 (W : Int), .int .i64 H, .int .i64 M, .slice a1 bs.length c1, .int .i64 n, .int .i64 rows, .int .i64 last, .int .i64 e] 198, QG 5 1 a1 c1 bs.length (Xr bs), QG 92 1 a3 c3 W (Xp (Yw K W (Qg M) bs))]) := by
 have hb := hR.bd
 have hch := Y0 K
 have hw := Q2 M
 have hsb := XU (K := K) (W := W) hw (by omega) (by omega)
 have hqd := Nat.div_le_self bs.length (Qg M)
 have hq0 : 0 ≤ (bs.length : Int) / ((Qg M : Nat) : Int) := Int.ediv_nonneg (by omega) (by omega)
 refine Qk (vs := [.pointer (some ⟨g, 0, none⟩)]) Tryz.func168 rfl Tryz.ntmps168 rfl ?_
 refine Qb (Qa (Qe rfl rfl (WpL.nil (Qb (Qa (Qe rfl rfl (WpL.nil (Qb (Qb (Qa (Qc rfl rfl (Qq rfl rfl ?_))))))))))))
 refine Qj (o2 := 0) rfl rfl rfl (Qj (o2 := 0) rfl rfl rfl (Qo rfl rfl (by rfl) ?_))
 refine QN rfl rfl rfl (WpL.nil (QU rfl h4 ?_))
 apply Xs (fB := []) mixed [(9, false)] (by kernel_rfl)
 apply Xk [⟨0, 16, _, [], false⟩, ⟨1, 17, _, [0], false⟩, ⟨2, 18, _, [1], false⟩, ⟨3, 19, _, [2], false⟩, ⟨4, 20, _, [], false⟩, ⟨5, 21, _, [4], false⟩, ⟨6, 22, _, [5], false⟩, ⟨7, 23, _, [6], false⟩, ⟨8, 24, _, [7], false⟩] [] [0, 1, 2, 3, 4, 5, 6, 7, 8] [15, 26, 27, 3] (.inr rfl) rfl rfl rfl (by kernel_rfl) rfl rfl rfl
 ·refine AllF.cons rfl rfl rfl rfl ?_ ?_
  ·exact Qc rfl rfl (Qm rfl)
  refine AllF.cons rfl rfl rfl rfl ?_ ?_
  ·exact Qq rfl rfl (Qm rfl)
  refine AllF.cons rfl rfl rfl rfl ?_ ?_
  ·exact Qj (o2 := 4) rfl rfl rfl (Qm rfl)
  refine AllF.cons rfl rfl rfl rfl ?_ ?_
  ·refine Qo rfl rfl (by rfl) ?_
   exact Qm rfl
  refine AllF.cons rfl rfl rfl rfl ?_ ?_
  ·exact Qc rfl rfl (Qm rfl)
  refine AllF.cons rfl rfl rfl rfl ?_ ?_
  ·exact Qq rfl rfl (Qm rfl)
  refine AllF.cons rfl rfl rfl rfl ?_ ?_
  ·exact Qj (o2 := 0) rfl rfl rfl (Qm rfl)
  refine AllF.cons rfl rfl rfl rfl ?_ ?_
  ·exact Qj (o2 := 1) rfl rfl rfl (Qm rfl)
  refine AllF.cons rfl rfl rfl rfl ?_ ?_
  ·refine Qo rfl rfl (by rfl) ?_
   exact Qm rfl
  exact AllF.nil
 ·refine Qh rfl rfl (by repeat' constructor) (UnpackB_spec _ _ _ bs QE hbs (by omega) W (by omega) (by rw [hst]; exact if_pos h4) hbc) ?_
  rintro _ _ ⟨aL, cL, rfl, rfl⟩
  simp only [Qr]
  refine WpL.nil ⟨rfl, rfl, ?_⟩
  apply GoR.nil [⟨10, 15, _, [9], false⟩, ⟨11, 26, _, [10], false⟩, ⟨12, 27, _, [10], false⟩, ⟨13, 3, _, [0, 1, 2, 3, 4, 5, 6, 7, 8, 9, 10, 11], false⟩] (.inr rfl) rfl rfl
  ·refine AllF.cons rfl rfl rfl rfl ?_ ?_
   ·exact Qc rfl rfl (Qm rfl)
   refine AllF.cons rfl rfl rfl rfl ?_ ?_
   ·exact QH rfl rfl rfl (Qm rfl)
   refine AllF.cons rfl rfl rfl rfl ?_ ?_
   ·exact QH rfl rfl rfl (Qm rfl)
   refine AllF.cons rfl rfl rfl rfl ?_ ?_
   ·exact Qe rfl rfl (Qm rfl)
   exact AllF.nil
  ·refine Qb (Qa (YE rfl ?_))
   intro gO
   refine WpL.nil (Qb (Qb (Qa (Qc rfl rfl (Qc rfl rfl (Qq rfl rfl (Qj (o2 := 0) rfl rfl rfl ?_)))))))
   refine QI (vs := [_, _, _, _]) rfl rfl rfl (by rfl) ?_
   refine Qh rfl rfl (by repeat' constructor) (XJ _ _ _ _ (by omega)) ?_
   rintro _ _ ⟨rfl, rfl⟩
   simp only [Qr]
   rw [show (if K % 3 = 0 then (3 : Int) else 1) = (((QW K).toNat : Nat) : Int) from by rw [Int.toNat_of_nonneg (by omega)]; rfl]
   have hrd : Yw K W (Qg M) bs = Y1 (QW K).toNat (Z5 bs W) := by unfold Yw; rw [if_pos h4]
   obtain ⟨ls, hls⟩ : ∃ ls, ls = Z5 bs W := ⟨_, rfl⟩
   rw [← hls] at hrd ⊢
   have hll : ls.length = W := by rw [hls, ubits_len]
   have hlsl : W = W * (QW K).toNat := by rw [h4]; exact (Nat.mul_one W).symm
   refine ZX (T := 3) (xs := QY ls) (by repeat' constructor) (fun hlc => ?_)
   refine s_fv rfl rfl rfl (Qh rfl rfl (by repeat' constructor) (chunk_spec _ _ _ _ (by omega)) ?_)
   rintro _ _ ⟨gs, gn, rfl, rfl⟩
   simp only [Qr]
   refine WpL.nil (Wp.block ?_)
   refine Wp.rangeF (encs := fun k : Nat => [.slice (sla aL (k * (QW K).toNat) ((k + 1) * (QW K).toNat) 1) (QW K).toNat (QW K).toNat]) (xs := List.range W) (QG := [QA gs [.slice aL (W) cL] 26, QA gn [.int .i64 (((QW K).toNat : Nat) : Int)] 3]) (own' := [QA gs [.slice aL (W) cL] 26, QA gn [.int .i64 (((QW K).toNat : Nat) : Int)] 3]) (m0 := [QA gO [.slice none 0 0] 49, QG 3 1 aL cL (W) (QY ls), QA g [.int .i64 K, .int .i64 (W : Int), .int .i64 H, .int .i64 M, .slice a1 bs.length c1, .int .i64 n, .int .i64 rows, .int .i64 last, .int .i64 e] 198, QG 5 1 a1 c1 bs.length (Xr bs), QG 92 1 none 0 0 []]) rfl rfl (chunk_iter aL cL (W) (QW K).toNat W (by omega) hlsl hlc (by omega) gs gn) (fun _ => rfl) rfl (fun k m => ∃ a9 c9, m = [QA gO [.slice a9 k c9] 49, QG 3 1 aL cL (W) (QY ls), QA g [.int .i64 K, .int .i64 (W : Int), .int .i64 H, .int .i64 M, .slice a1 bs.length c1, .int .i64 n, .int .i64 rows, .int .i64 last, .int .i64 e] 198, QG 5 1 a1 c1 bs.length (Xr bs), QG 92 1 a9 c9 (k) (Xp ((Y1 (QW K).toNat ls).take (k)))]) (fun _ _ _ => False) ?_ ?_ ?_ ?_ ?_
   ·exact ⟨none, 0, by rw [List.take_zero]; rfl⟩
   ·simp only [Qr]
    exact (Ent.own_nil (T := 92) (s := 1) (Ent.refl _)).trans (Take.ent' (by repeat' constructor))
   ·intro y k hk m hm
    obtain ⟨a9, c9, rfl⟩ := hm
    rw [List.getElem_range]
    rw [List.length_range] at hk
    have hkc : k < ls.length / (QW K).toNat := by rw [hll, hlsl, Nat.mul_div_cancel _ (by omega)]; exact hk
    have hks := Z1 k (QW K).toNat
    have hkN1 : (k + 1) * (QW K).toNat ≤ ls.length := by rw [hll, hlsl]; exact Nat.mul_le_mul_right _ hk
    have hRo : RdsL [QG 3 1 aL cL (W) (QY ls)] aL (QY ls) := QE
    have hRw := hRo.sla (k * (QW K).toNat) ((k + 1) * (QW K).toNat) ((k + 1) * (QW K).toNat) 1 (Nat.le_refl _)
    rw [ints_sub, show (k + 1) * (QW K).toNat - k * (QW K).toNat = (QW K).toNat by omega] at hRw
    obtain ⟨one, hone⟩ : ∃ one, one = (ls.drop (k * (QW K).toNat)).take (QW K).toNat := ⟨_, rfl⟩
    have hol : one.length = (QW K).toNat := by rw [hone, List.length_take, List.length_drop]; omega
    rw [← hone] at hRw
    have hcs := chunkP_snoc (QW K).toNat ls hkc
    rw [← hone] at hcs
    have hPk := Pack_spec [QG 3 1 aL cL (W) (QY ls)] (sla aL (k * (QW K).toNat) ((k + 1) * (QW K).toNat) 1) (QW K).toNat one hRw (by omega)
    rw [hol] at hPk
    refine Qa (Qe rfl rfl (WpL.nil (⟨rfl, rfl, ?_⟩)))
    refine Wp.block ?_
    refine Qb (Qa (Qc rfl rfl (Qh rfl rfl (by repeat' constructor) (hPk) ?_)))
    rintro _ _ ⟨rfl, rfl⟩
    simp only [Qr]
    refine Qc rfl rfl (QH rfl rfl rfl (QH rfl rfl rfl (Qe rfl rfl (Qe rfl rfl (WpL.nil (Qa (Qo rfl rfl (by rfl) ?_)))))))
    refine Qc rfl rfl ?_
    refine Yb rfl rfl rfl rfl ?_
    intro g2
    refine XA rfl rfl rfl (by repeat' constructor) (by rfl) (by rfl) (by rfl) (by rfl) (by omega) (by omega) ?_
    intro a66 c66
    refine Q3 rfl rfl rfl (WpL.nil ?_)
    rw [pxs_snoc, hcs]
    refine ⟨_, ⟨a66, c66, rfl⟩, ?_⟩
    exact Take.ent' (by repeat' constructor)
   ·intro q1 m hm
    obtain ⟨a9, c9, rfl⟩ := hm
    rw [List.length_range]
    simp only [Qr]
    rw [List.take_of_length_le (by rw [Vd, hll]; exact Nat.div_le_of_le_mul (by rw [Nat.mul_comm]; exact Nat.le_of_eq hlsl)), ← hrd]
    refine Qb (Qa (Qo rfl rfl (by rfl) ?_))
    refine Qe rfl rfl (WpL.nil (Qi ?_))
    apply RetQ.mkR [q1] rfl (by repeat' constructor)
    ·exact (Res.one rfl rfl)
    ·exact ⟨a9, c9, rfl, rfl⟩
    ·exact Take.ent' (by repeat' constructor)
   ·exact fun _ _ _ _ _ h => h.elim

set_option maxHeartbeats 1000000 in
theorem RawRow_b (K : Int) (W : Nat) (H M : Int) (hR : RawH K (W : Int) H M) (g : Nat) (a1 : Option Addr) (c1 : Nat) (bs : List Int) (hbs : ∀ x ∈ bs, 0 ≤ x ∧ x ≤ 255) (hbl : bs.length ≤ 100000) (n rows last e : Int) (hst : bs.length = QF K W (Qg M)) (_hbc : bs.length ≤ c1) (h4 : K ≠ 4) : Fn Tryz.prog 168 #[.pointer (some ⟨g, 0, none⟩)] [QA g [.int .i64 K, .int .i64 (W : Int), .int .i64 H, .int .i64 M, .slice a1 bs.length c1, .int .i64 n, .int .i64 rows, .int .i64 last, .int .i64 e] 198, QG 5 1 a1 c1 bs.length (Xr bs)] (fun v l => ∃ a3 c3, v = .slice a3 W c3 ∧ l = [QA g [.int .i64 K, .int .i64 (W : Int), .int .i64 H, .int .i64 M, .slice a1 bs.length c1, .int .i64 n, .int .i64 rows, .int .i64 last, .int .i64 e] 198, QG 5 1 a1 c1 bs.length (Xr bs), QG 92 1 a3 c3 W (Xp (Yw K W (Qg M) bs))]) := by
 have hb := hR.bd
 have hch := Y0 K
 have hw := Q2 M
 have hsb := XU (K := K) (W := W) hw (by omega) (by omega)
 have hqd := Nat.div_le_self bs.length (Qg M)
 have hq0 : 0 ≤ (bs.length : Int) / ((Qg M : Nat) : Int) := Int.ediv_nonneg (by omega) (by omega)
 refine Qk (vs := [.pointer (some ⟨g, 0, none⟩)]) Tryz.func168 rfl Tryz.ntmps168 rfl ?_
 refine Qb (Qa (Qe rfl rfl (WpL.nil (Qb (Qa (Qe rfl rfl (WpL.nil (Qb (Qb (Qa (Qc rfl rfl (Qq rfl rfl ?_))))))))))))
 refine Qj (o2 := 0) rfl rfl rfl (Qj (o2 := 0) rfl rfl rfl (Qo rfl rfl (by rfl) ?_))
 refine QN rfl rfl rfl (WpL.nil (Qz rfl h4 (Qb ?_)))
 apply Q0 mixed [⟨28, _, []⟩, ⟨29, _, [0]⟩, ⟨30, _, [1]⟩, ⟨31, _, [2]⟩, ⟨32, _, [3]⟩, ⟨33, _, []⟩, ⟨34, _, [5]⟩, ⟨35, _, [6]⟩, ⟨36, _, [7]⟩, ⟨37, _, [8]⟩, ⟨38, _, [4, 9]⟩, ⟨39, _, []⟩] rfl
 ·refine AllObs.mk ?_ ?_
  ·exact Qc rfl rfl (Qm rfl)
  refine AllObs.mk ?_ ?_
  ·exact Qq rfl rfl (Qm rfl)
  refine AllObs.mk ?_ ?_
  ·exact Qj (o2 := 4) rfl rfl rfl (Qm rfl)
  refine AllObs.mk ?_ ?_
  ·refine Qo rfl rfl (by rfl) ?_
   exact Qm rfl
  refine AllObs.mk ?_ ?_
  ·exact QC rfl rfl (WpL.nil ⟨rfl, rfl, rfl, by exact Ent.refl _⟩)
  refine AllObs.mk ?_ ?_
  ·exact Qc rfl rfl (Qm rfl)
  refine AllObs.mk ?_ ?_
  ·exact Qq rfl rfl (Qm rfl)
  refine AllObs.mk ?_ ?_
  ·exact Qj (o2 := 0) rfl rfl rfl (Qm rfl)
  refine AllObs.mk ?_ ?_
  ·refine QI (vs := [_, _, _, _]) rfl rfl rfl (by rfl) ?_
   exact Qm rfl
  refine AllObs.mk ?_ ?_
  ·refine Qh rfl rfl (by repeat' constructor) (YW _ _ _ _) ?_
   rintro _ _ ⟨rfl, rfl⟩
   simp only [Qr]
   exact WpL.nil ⟨rfl, rfl, rfl, by exact Ent.refl _⟩
  refine AllObs.mk ?_ ?_
  ·refine ZG rfl rfl rfl (by omega) (by omega) (by rw [show (bs.length : Int) / ((Qg M : Nat) : Int) = ((bs.length / Qg M : Nat) : Int) from rfl]; exact Qu (by omega) (by omega)) ?_
   rw [show (bs.length : Int) / ((Qg M : Nat) : Int) = ((bs.length / Qg M : Nat) : Int) from rfl]
   exact Qm rfl
  refine AllObs.mk ?_ ?_
  ·exact Qc rfl rfl (Qm rfl)
  exact AllObs.nil
 ·refine Wp.block ?_
  refine Wp.loopD (σ := SmX) (fun z => z.k ≤ (bs.length / Qg M)) [3, 4, 39, 40, 41, 42, 43, 44, 45, 46, 47, 48] (fun z => [(39, .int .i64 (z.k : Int)), (3, .slice z.a z.k z.c)]) (fun z => QG 3 1 z.a z.c z.k (QY ((Zw (Qg M) bs).take z.k)) :: [QA g [.int .i64 K, .int .i64 (W : Int), .int .i64 H, .int .i64 M, .slice a1 bs.length c1, .int .i64 n, .int .i64 rows, .int .i64 last, .int .i64 e] 198, QG 5 1 a1 c1 bs.length (Xr bs)]) (fun z => (bs.length / Qg M) - z.k) ⟨0, none, 0⟩ ?_ (by repeat (first | exact FrLe.nil | refine FrLe.cons rfl ?_)) ?_ ?_
  ·exact Nat.zero_le _
  ·exact Ent.own_nil (T := 3) (s := 1) (Ent.refl _)
  ·rintro ⟨k, aL, cL⟩ hk
   dsimp only at hk ⊢
   refine Qb (Qa (Q7 rfl rfl rfl (WpL.nil (Qb (Ql rfl (fun h2 => ?_) (fun h2 => ?_))))))
   ·have hlt : k < (bs.length / Qg M) := by omega
    have hkw : (k + 1) * Qg M ≤ bs.length := Nat.le_trans (Nat.mul_le_mul_right _ hlt) (Nat.div_mul_le_self _ _)
    refine Wp.skip (Qb (Wp.block ?_))
    refine Qb (Qa (Qc rfl rfl (Qe rfl rfl (WpL.nil (Qa (Qc rfl rfl (Qc rfl rfl (Qc rfl rfl (Qh rfl rfl (by repeat' constructor) (RawSample_spec _ _ _ _ hR _ _ _ _ hbs (by omega) _ _ _ _ k hkw) ?_)))))))))
    rintro _ _ ⟨rfl, rfl⟩
    simp only [Qr]
    refine Yb rfl rfl rfl rfl ?_
    intro g1
    refine XA rfl rfl rfl (by repeat' constructor) (by rfl) (by rfl) (by rfl) (by rfl) (by omega) (by omega) ?_
    intro a47 c47
    rw [Yz, smps_take _ _ hlt]
    refine Qe rfl rfl (WpL.nil (Qa (QD rfl rfl rfl (Qu (by omega) (by omega)) ?_)))
    refine Qc rfl rfl (WpL.nil (Qv (⟨k + 1, a47, c47⟩ : SmX) ?_ ?_ (by ((repeat (first | exact Top.refl | refine Top.push rfl ?_)); done)) (by repeat (first | exact FrLe.nil | refine FrLe.cons rfl ?_)) ?_))
    ·simp only; omega
    ·simp only; omega
    ·exact Ent.refl _
   ·have hke : k = (bs.length / Qg M) := by omega
    subst hke
    rw [List.take_of_length_le (by rw [Z4]; exact Nat.le_refl _)]
    refine QM (Qb (Qa (YE rfl ?_)))
    intro gO
    refine WpL.nil (Qb (Qb (Qa (Qc rfl rfl (Qc rfl rfl (Qq rfl rfl (Qj (o2 := 0) rfl rfl rfl ?_)))))))
    refine QI (vs := [_, _, _, _]) rfl rfl rfl (by rfl) ?_
    refine Qh rfl rfl (by repeat' constructor) (XJ _ _ _ _ (by omega)) ?_
    rintro _ _ ⟨rfl, rfl⟩
    simp only [Qr]
    rw [show (if K % 3 = 0 then (3 : Int) else 1) = (((QW K).toNat : Nat) : Int) from by rw [Int.toNat_of_nonneg (by omega)]; rfl]
    have hrd : Yw K W (Qg M) bs = Y1 (QW K).toNat (Zw (Qg M) bs) := by unfold Yw; rw [if_neg h4]
    obtain ⟨ls, hls⟩ : ∃ ls, ls = Zw (Qg M) bs := ⟨_, rfl⟩
    rw [← hls] at hrd ⊢
    have hll : ls.length = (bs.length / Qg M) := by rw [hls, Z4]
    have hlsl : (bs.length / Qg M) = W * (QW K).toNat := by rw [hst]; exact strd_div hw h4
    refine ZX (T := 3) (xs := QY ls) (by repeat' constructor) (fun hlc => ?_)
    refine s_fv rfl rfl rfl (Qh rfl rfl (by repeat' constructor) (chunk_spec _ _ _ _ (by omega)) ?_)
    rintro _ _ ⟨gs, gn, rfl, rfl⟩
    simp only [Qr]
    refine WpL.nil (Wp.block ?_)
    refine Wp.rangeF (encs := fun k : Nat => [.slice (sla aL (k * (QW K).toNat) ((k + 1) * (QW K).toNat) 1) (QW K).toNat (QW K).toNat]) (xs := List.range W) (QG := [QA gs [.slice aL ((bs.length / Qg M)) cL] 26, QA gn [.int .i64 (((QW K).toNat : Nat) : Int)] 3]) (own' := [QA gs [.slice aL ((bs.length / Qg M)) cL] 26, QA gn [.int .i64 (((QW K).toNat : Nat) : Int)] 3]) (m0 := [QA gO [.slice none 0 0] 49, QG 3 1 aL cL ((bs.length / Qg M)) (QY ls), QA g [.int .i64 K, .int .i64 (W : Int), .int .i64 H, .int .i64 M, .slice a1 bs.length c1, .int .i64 n, .int .i64 rows, .int .i64 last, .int .i64 e] 198, QG 5 1 a1 c1 bs.length (Xr bs), QG 92 1 none 0 0 []]) rfl rfl (chunk_iter aL cL ((bs.length / Qg M)) (QW K).toNat W (by omega) hlsl hlc (by omega) gs gn) (fun _ => rfl) rfl (fun k m => ∃ a9 c9, m = [QA gO [.slice a9 k c9] 49, QG 3 1 aL cL ((bs.length / Qg M)) (QY ls), QA g [.int .i64 K, .int .i64 (W : Int), .int .i64 H, .int .i64 M, .slice a1 bs.length c1, .int .i64 n, .int .i64 rows, .int .i64 last, .int .i64 e] 198, QG 5 1 a1 c1 bs.length (Xr bs), QG 92 1 a9 c9 (k) (Xp ((Y1 (QW K).toNat ls).take (k)))]) (fun _ _ _ => False) ?_ ?_ ?_ ?_ ?_
    ·exact ⟨none, 0, by rw [List.take_zero]; rfl⟩
    ·simp only [Qr]
     exact (Ent.own_nil (T := 92) (s := 1) (Ent.refl _)).trans (Take.ent' (by repeat' constructor))
    ·intro y k hk m hm
     obtain ⟨a9, c9, rfl⟩ := hm
     rw [List.getElem_range]
     rw [List.length_range] at hk
     have hkc : k < ls.length / (QW K).toNat := by rw [hll, hlsl, Nat.mul_div_cancel _ (by omega)]; exact hk
     have hks := Z1 k (QW K).toNat
     have hkN1 : (k + 1) * (QW K).toNat ≤ ls.length := by rw [hll, hlsl]; exact Nat.mul_le_mul_right _ hk
     have hRo : RdsL [QG 3 1 aL cL ((bs.length / Qg M)) (QY ls)] aL (QY ls) := QE
     have hRw := hRo.sla (k * (QW K).toNat) ((k + 1) * (QW K).toNat) ((k + 1) * (QW K).toNat) 1 (Nat.le_refl _)
     rw [ints_sub, show (k + 1) * (QW K).toNat - k * (QW K).toNat = (QW K).toNat by omega] at hRw
     obtain ⟨one, hone⟩ : ∃ one, one = (ls.drop (k * (QW K).toNat)).take (QW K).toNat := ⟨_, rfl⟩
     have hol : one.length = (QW K).toNat := by rw [hone, List.length_take, List.length_drop]; omega
     rw [← hone] at hRw
     have hcs := chunkP_snoc (QW K).toNat ls hkc
     rw [← hone] at hcs
     have hPk := Pack_spec [QG 3 1 aL cL ((bs.length / Qg M)) (QY ls)] (sla aL (k * (QW K).toNat) ((k + 1) * (QW K).toNat) 1) (QW K).toNat one hRw (by omega)
     rw [hol] at hPk
     refine Qa (Qe rfl rfl (WpL.nil (⟨rfl, rfl, ?_⟩)))
     refine Wp.block ?_
     refine Qb (Qa (Qc rfl rfl (Qh rfl rfl (by repeat' constructor) (hPk) ?_)))
     rintro _ _ ⟨rfl, rfl⟩
     simp only [Qr]
     refine Qc rfl rfl (QH rfl rfl rfl (QH rfl rfl rfl (Qe rfl rfl (Qe rfl rfl (WpL.nil (Qa (Qo rfl rfl (by rfl) ?_)))))))
     refine Qc rfl rfl ?_
     refine Yb rfl rfl rfl rfl ?_
     intro g3
     refine XA rfl rfl rfl (by repeat' constructor) (by rfl) (by rfl) (by rfl) (by rfl) (by omega) (by omega) ?_
     intro a66 c66
     refine Q3 rfl rfl rfl (WpL.nil ?_)
     rw [pxs_snoc, hcs]
     refine ⟨_, ⟨a66, c66, rfl⟩, ?_⟩
     exact Take.ent' (by repeat' constructor)
    ·intro q1 m hm
     obtain ⟨a9, c9, rfl⟩ := hm
     rw [List.length_range]
     simp only [Qr]
     rw [List.take_of_length_le (by rw [Vd, hll]; exact Nat.div_le_of_le_mul (by rw [Nat.mul_comm]; exact Nat.le_of_eq hlsl)), ← hrd]
     refine Qb (Qa (Qo rfl rfl (by rfl) ?_))
     refine Qe rfl rfl (WpL.nil (Qi ?_))
     apply RetQ.mkR [q1] rfl (by repeat' constructor)
     ·exact (Res.one rfl rfl)
     ·exact ⟨a9, c9, rfl, rfl⟩
     ·exact Take.ent' (by repeat' constructor)
    ·exact fun _ _ _ _ _ h => h.elim

end Go.Proofs.YtggamdlpiejbiaaGreat
