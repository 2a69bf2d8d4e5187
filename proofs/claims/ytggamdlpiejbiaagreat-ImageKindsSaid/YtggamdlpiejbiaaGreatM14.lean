/- Walks and plain laws, a part of the proof of ImageKinds: every input that the law's guards let in, no condition beside. -/
import Derived.Test.YtggamdlpiejbiaaGreatM13
namespace Go.Proofs.YtggamdlpiejbiaaGreat
open Go.RowKit Go.Shelf


structure SmX where
  (k : Nat) (a : Option Addr) (c : Nat)
theorem Y6 (w : Nat) (b : List Int) : (Y0 w b).length = b.length / w := by simp [Y0]
theorem smps_take (w : Nat) (b : List Int) {k : Nat} (h : k < b.length / w) : (Y0 w b).take k ++ [Xu w b k] = (Y0 w b).take (k + 1) := by
  rw [List.take_succ_eq_append_getElem (by rw [Y6]; exact h)]
  simp [Y0]
theorem Y9 (ch : Nat) (l : List Int) : (YW ch l).length = l.length / ch := by simp [YW]
theorem chunkP_snoc (ch : Nat) (l : List Int) {k : Nat} (h : k < l.length / ch) : (YW ch l).take k ++ [(packS ((l.drop (k * ch)).take ch)).1] = (YW ch l).take (k + 1) := by
  rw [List.take_succ_eq_append_getElem (by rw [Y9]; exact h)]
  simp [YW]
theorem ints_sub (px : List Int) (L H : Nat) : ((QS px).drop (L * 1)).take ((H - L) * 1) = QS ((px.drop L).take (H - L)) := by simp [QS, List.map_take, List.map_drop]
theorem strd_div {K : Int} {W w : Nat} (hw : w = 1 ∨ w = 2) (h : K ≠ 4) : QA K W w / w = W * (QT K).toNat := by
  unfold QA
  rw [if_neg h, Nat.mul_div_cancel _ (by omega)]
theorem Yq {K : Int} {W w : Nat} {bs : List Int} (hw : w = 1 ∨ w = 2) (h : bs.length = QA K W w) : (Yk K W w bs).length = W := by
  have hch := XW K
  unfold Yk
  rw [Y9]
  split
  · rename_i h4
    have : (QT K).toNat = 1 := by rw [h4]; rfl
    rw [this, ubits_len, Nat.div_one]
  · rename_i h4
    rw [Y6, h, strd_div hw h4, Nat.mul_div_cancel _ (by omega)]

set_option maxHeartbeats 1000000 in
theorem RawRow_a (K : Int) (W : Nat) (H M : Int) (hR : RawH K (W : Int) H M) (g : Nat) (a1 : Option Addr) (c1 : Nat) (bs : List Int) (hbs : ∀ x ∈ bs, 0 ≤ x ∧ x ≤ 255) (hbl : bs.length ≤ 100000) (n rows last e : Int) (hst : bs.length = QA K W (Qg M)) (hbc : bs.length ≤ c1) (h4 : K = 4) : Fn Tryz.prog 168 #[.pointer (some ⟨g, 0, none⟩)] [Qy g [.int .i64 K, .int .i64 (W : Int), .int .i64 H, .int .i64 M, .slice a1 bs.length c1, .int .i64 n, .int .i64 rows, .int .i64 last, .int .i64 e] 198, QH 5 1 a1 c1 bs.length (Xa bs)] (fun v l => ∃ a3 c3, v = .slice a3 W c3 ∧ l = [Qy g [.int .i64 K, .int .i64 (W : Int), .int .i64 H, .int .i64 M, .slice a1 bs.length c1, .int .i64 n, .int .i64 rows, .int .i64 last, .int .i64 e] 198, QH 5 1 a1 c1 bs.length (Xa bs), QH 92 1 a3 c3 W (XG (Yk K W (Qg M) bs))]) := by
 have hb := hR.bd
 have hch := XW K
 have hw := QX M
 have hsb := XE (K := K) (W := W) hw (by omega) (by omega)
 have hqd := Nat.div_le_self bs.length (Qg M)
 have hq0 : 0 ≤ (bs.length : Int) / ((Qg M : Nat) : Int) := Int.ediv_nonneg (by omega) (by omega)
 refine Ql (vs := [.pointer (some ⟨g, 0, none⟩)]) Tryz.func168 rfl Tryz.ntmps168 rfl ?_
 refine Qb (Qa (Qe rfl rfl (WpL.nil (Qb (Qa (Qe rfl rfl (WpL.nil (Qb (Qb (Qa (Qc rfl rfl (Qp rfl rfl ?_))))))))))))
 refine Qj (o2 := 0) rfl rfl rfl (Qj (o2 := 0) rfl rfl rfl (Qo rfl rfl (by rfl) ?_))
 refine QK rfl rfl rfl (WpL.nil (QG rfl h4 ?_))
 apply Q8 (fB := []) mixed [(9, false)] (by kernel_rfl)
 apply Q4 [⟨0, 16, _, [], false⟩, ⟨1, 17, _, [0], false⟩, ⟨2, 18, _, [1], false⟩, ⟨3, 19, _, [2], false⟩, ⟨4, 20, _, [], false⟩, ⟨5, 21, _, [4], false⟩, ⟨6, 22, _, [5], false⟩, ⟨7, 23, _, [6], false⟩, ⟨8, 24, _, [7], false⟩] [] [0, 1, 2, 3, 4, 5, 6, 7, 8] [15, 26, 27, 3] (.inr rfl) rfl rfl rfl (by kernel_rfl) rfl rfl rfl
 ·refine AllF.cons rfl rfl rfl rfl ?_ ?_
  ·exact Qc rfl rfl (Qm rfl)
  refine AllF.cons rfl rfl rfl rfl ?_ ?_
  ·exact Qp rfl rfl (Qm rfl)
  refine AllF.cons rfl rfl rfl rfl ?_ ?_
  ·exact Qj (o2 := 4) rfl rfl rfl (Qm rfl)
  refine AllF.cons rfl rfl rfl rfl ?_ ?_
  ·refine Qo rfl rfl (by rfl) ?_
   exact Qm rfl
  refine AllF.cons rfl rfl rfl rfl ?_ ?_
  ·exact Qc rfl rfl (Qm rfl)
  refine AllF.cons rfl rfl rfl rfl ?_ ?_
  ·exact Qp rfl rfl (Qm rfl)
  refine AllF.cons rfl rfl rfl rfl ?_ ?_
  ·exact Qj (o2 := 0) rfl rfl rfl (Qm rfl)
  refine AllF.cons rfl rfl rfl rfl ?_ ?_
  ·exact Qj (o2 := 1) rfl rfl rfl (Qm rfl)
  refine AllF.cons rfl rfl rfl rfl ?_ ?_
  ·refine Qo rfl rfl (by rfl) ?_
   exact Qm rfl
  exact AllF.nil
 ·refine Qh rfl rfl (by repeat' constructor) (UnpackB_spec _ _ _ bs QM hbs (by omega) W (by omega) (by rw [hst]; exact if_pos h4) hbc) ?_
  rintro _ _ ⟨aL, cL, rfl, rfl⟩
  simp only [Qq]
  refine WpL.nil ⟨rfl, rfl, ?_⟩
  apply GoR.nil [⟨10, 15, _, [9], false⟩, ⟨11, 26, _, [10], false⟩, ⟨12, 27, _, [10], false⟩, ⟨13, 3, _, [0, 1, 2, 3, 4, 5, 6, 7, 8, 9, 10, 11], false⟩] (.inr rfl) rfl rfl
  ·refine AllF.cons rfl rfl rfl rfl ?_ ?_
   ·exact Qc rfl rfl (Qm rfl)
   refine AllF.cons rfl rfl rfl rfl ?_ ?_
   ·exact QF rfl rfl rfl (Qm rfl)
   refine AllF.cons rfl rfl rfl rfl ?_ ?_
   ·exact QF rfl rfl rfl (Qm rfl)
   refine AllF.cons rfl rfl rfl rfl ?_ ?_
   ·exact Qe rfl rfl (Qm rfl)
   exact AllF.nil
  ·refine Qb (Qa (Yd rfl ?_))
   intro gO
   refine WpL.nil (Qb (Qb (Qa (Qc rfl rfl (Qc rfl rfl (Qp rfl rfl (Qj (o2 := 0) rfl rfl rfl ?_)))))))
   refine QD (vs := [_, _, _, _]) rfl rfl rfl (by rfl) ?_
   refine Qh rfl rfl (by repeat' constructor) (Xb _ _ _ _ (by omega)) ?_
   rintro _ _ ⟨rfl, rfl⟩
   simp only [Qq]
   rw [show (if K % 3 = 0 then (3 : Int) else 1) = (((QT K).toNat : Nat) : Int) from by rw [Int.toNat_of_nonneg (by omega)]; rfl]
   have hrd : Yk K W (Qg M) bs = YW (QT K).toNat (ubits bs W) := by unfold Yk; rw [if_pos h4]
   obtain ⟨ls, hls⟩ : ∃ ls, ls = ubits bs W := ⟨_, rfl⟩
   rw [← hls] at hrd ⊢
   have hll : ls.length = W := by rw [hls, ubits_len]
   have hlsl : W = W * (QT K).toNat := by rw [h4]; exact (Nat.mul_one W).symm
   refine WpL.ownLe (T := 3) (xs := QS ls) (by repeat' constructor) (fun hlc => ?_)
   refine s_fv rfl rfl rfl (Qh rfl rfl (by repeat' constructor) (chunk_spec _ _ _ _ (by omega)) ?_)
   rintro _ _ ⟨gs, gn, rfl, rfl⟩
   simp only [Qq]
   refine WpL.nil (Wp.block ?_)
   refine Wp.rangeF (encs := fun k : Nat => [.slice (sla aL (k * (QT K).toNat) ((k + 1) * (QT K).toNat) 1) (QT K).toNat (QT K).toNat]) (xs := List.range W) (QH := [Qy gs [.slice aL (W) cL] 26, Qy gn [.int .i64 (((QT K).toNat : Nat) : Int)] 3]) (own' := [Qy gs [.slice aL (W) cL] 26, Qy gn [.int .i64 (((QT K).toNat : Nat) : Int)] 3]) (m0 := [Qy gO [.slice none 0 0] 49, QH 3 1 aL cL (W) (QS ls), Qy g [.int .i64 K, .int .i64 (W : Int), .int .i64 H, .int .i64 M, .slice a1 bs.length c1, .int .i64 n, .int .i64 rows, .int .i64 last, .int .i64 e] 198, QH 5 1 a1 c1 bs.length (Xa bs), QH 92 1 none 0 0 []]) rfl rfl (chunk_iter aL cL (W) (QT K).toNat W (by omega) hlsl hlc (by omega) gs gn) (fun _ => rfl) rfl (fun k m => ∃ a9 c9, m = [Qy gO [.slice a9 k c9] 49, QH 3 1 aL cL (W) (QS ls), Qy g [.int .i64 K, .int .i64 (W : Int), .int .i64 H, .int .i64 M, .slice a1 bs.length c1, .int .i64 n, .int .i64 rows, .int .i64 last, .int .i64 e] 198, QH 5 1 a1 c1 bs.length (Xa bs), QH 92 1 a9 c9 (k) (XG ((YW (QT K).toNat ls).take (k)))]) (fun _ _ _ => False) ?_ ?_ ?_ ?_ ?_
   ·exact ⟨none, 0, by rw [List.take_zero]; rfl⟩
   ·simp only [Qq]
    exact (Ent.own_nil (T := 92) (s := 1) (Ent.refl _)).trans (Take.ent' (by repeat' constructor))
   ·intro y k hk m hm
    obtain ⟨a9, c9, rfl⟩ := hm
    rw [List.getElem_range]
    rw [List.length_range] at hk
    have hkc : k < ls.length / (QT K).toNat := by rw [hll, hlsl, Nat.mul_div_cancel _ (by omega)]; exact hk
    have hks := Y4 k (QT K).toNat
    have hkN1 : (k + 1) * (QT K).toNat ≤ ls.length := by rw [hll, hlsl]; exact Nat.mul_le_mul_right _ hk
    have hRo : RdsL [QH 3 1 aL cL (W) (QS ls)] aL (QS ls) := QM
    have hRw := hRo.sla (k * (QT K).toNat) ((k + 1) * (QT K).toNat) ((k + 1) * (QT K).toNat) 1 (Nat.le_refl _)
    rw [ints_sub, show (k + 1) * (QT K).toNat - k * (QT K).toNat = (QT K).toNat by omega] at hRw
    obtain ⟨one, hone⟩ : ∃ one, one = (ls.drop (k * (QT K).toNat)).take (QT K).toNat := ⟨_, rfl⟩
    have hol : one.length = (QT K).toNat := by rw [hone, List.length_take, List.length_drop]; omega
    rw [← hone] at hRw
    have hcs := chunkP_snoc (QT K).toNat ls hkc
    rw [← hone] at hcs
    have hPk := Pack_spec [QH 3 1 aL cL (W) (QS ls)] (sla aL (k * (QT K).toNat) ((k + 1) * (QT K).toNat) 1) (QT K).toNat one hRw (by omega)
    rw [hol] at hPk
    refine Qa (Qe rfl rfl (WpL.nil (⟨rfl, rfl, ?_⟩)))
    refine Wp.block ?_
    refine Qb (Qa (Qc rfl rfl (Qh rfl rfl (by repeat' constructor) (hPk) ?_)))
    rintro _ _ ⟨rfl, rfl⟩
    simp only [Qq]
    refine Qc rfl rfl (QF rfl rfl rfl (QF rfl rfl rfl (Qe rfl rfl (Qe rfl rfl (WpL.nil (Qa (Qo rfl rfl (by rfl) ?_)))))))
    refine Qc rfl rfl ?_
    refine s_bs1 rfl rfl rfl rfl ?_
    intro g2
    refine Yl rfl rfl rfl (by repeat' constructor) (by rfl) (by rfl) (by rfl) (by rfl) (by omega) (by omega) ?_
    intro a66 c66
    refine QZ rfl rfl rfl (WpL.nil ?_)
    rw [pxs_snoc, hcs]
    refine ⟨_, ⟨a66, c66, rfl⟩, ?_⟩
    exact Take.ent' (by repeat' constructor)
   ·intro q1 m hm
    obtain ⟨a9, c9, rfl⟩ := hm
    rw [List.length_range]
    simp only [Qq]
    rw [List.take_of_length_le (by rw [Y9, hll]; exact Nat.div_le_of_le_mul (by rw [Nat.mul_comm]; exact Nat.le_of_eq hlsl)), ← hrd]
    refine Qb (Qa (Qo rfl rfl (by rfl) ?_))
    refine Qe rfl rfl (WpL.nil (Qi ?_))
    apply RetQ.mkR [q1] rfl (by repeat' constructor)
    ·exact (Res.one rfl rfl)
    ·exact ⟨a9, c9, rfl, rfl⟩
    ·exact Take.ent' (by repeat' constructor)
   ·exact fun _ _ _ _ _ h => h.elim

set_option maxHeartbeats 1000000 in
theorem RawRow_b (K : Int) (W : Nat) (H M : Int) (hR : RawH K (W : Int) H M) (g : Nat) (a1 : Option Addr) (c1 : Nat) (bs : List Int) (hbs : ∀ x ∈ bs, 0 ≤ x ∧ x ≤ 255) (hbl : bs.length ≤ 100000) (n rows last e : Int) (hst : bs.length = QA K W (Qg M)) (_hbc : bs.length ≤ c1) (h4 : K ≠ 4) : Fn Tryz.prog 168 #[.pointer (some ⟨g, 0, none⟩)] [Qy g [.int .i64 K, .int .i64 (W : Int), .int .i64 H, .int .i64 M, .slice a1 bs.length c1, .int .i64 n, .int .i64 rows, .int .i64 last, .int .i64 e] 198, QH 5 1 a1 c1 bs.length (Xa bs)] (fun v l => ∃ a3 c3, v = .slice a3 W c3 ∧ l = [Qy g [.int .i64 K, .int .i64 (W : Int), .int .i64 H, .int .i64 M, .slice a1 bs.length c1, .int .i64 n, .int .i64 rows, .int .i64 last, .int .i64 e] 198, QH 5 1 a1 c1 bs.length (Xa bs), QH 92 1 a3 c3 W (XG (Yk K W (Qg M) bs))]) := by
 have hb := hR.bd
 have hch := XW K
 have hw := QX M
 have hsb := XE (K := K) (W := W) hw (by omega) (by omega)
 have hqd := Nat.div_le_self bs.length (Qg M)
 have hq0 : 0 ≤ (bs.length : Int) / ((Qg M : Nat) : Int) := Int.ediv_nonneg (by omega) (by omega)
 refine Ql (vs := [.pointer (some ⟨g, 0, none⟩)]) Tryz.func168 rfl Tryz.ntmps168 rfl ?_
 refine Qb (Qa (Qe rfl rfl (WpL.nil (Qb (Qa (Qe rfl rfl (WpL.nil (Qb (Qb (Qa (Qc rfl rfl (Qp rfl rfl ?_))))))))))))
 refine Qj (o2 := 0) rfl rfl rfl (Qj (o2 := 0) rfl rfl rfl (Qo rfl rfl (by rfl) ?_))
 refine QK rfl rfl rfl (WpL.nil (Qw rfl h4 (Qb ?_)))
 apply QO mixed [⟨28, _, []⟩, ⟨29, _, [0]⟩, ⟨30, _, [1]⟩, ⟨31, _, [2]⟩, ⟨32, _, [3]⟩, ⟨33, _, []⟩, ⟨34, _, [5]⟩, ⟨35, _, [6]⟩, ⟨36, _, [7]⟩, ⟨37, _, [8]⟩, ⟨38, _, [4, 9]⟩, ⟨39, _, []⟩] rfl
 ·refine AllObs.mk ?_ ?_
  ·exact Qc rfl rfl (Qm rfl)
  refine AllObs.mk ?_ ?_
  ·exact Qp rfl rfl (Qm rfl)
  refine AllObs.mk ?_ ?_
  ·exact Qj (o2 := 4) rfl rfl rfl (Qm rfl)
  refine AllObs.mk ?_ ?_
  ·refine Qo rfl rfl (by rfl) ?_
   exact Qm rfl
  refine AllObs.mk ?_ ?_
  ·exact QR rfl rfl (WpL.nil ⟨rfl, rfl, rfl, by exact Ent.refl _⟩)
  refine AllObs.mk ?_ ?_
  ·exact Qc rfl rfl (Qm rfl)
  refine AllObs.mk ?_ ?_
  ·exact Qp rfl rfl (Qm rfl)
  refine AllObs.mk ?_ ?_
  ·exact Qj (o2 := 0) rfl rfl rfl (Qm rfl)
  refine AllObs.mk ?_ ?_
  ·refine QD (vs := [_, _, _, _]) rfl rfl rfl (by rfl) ?_
   exact Qm rfl
  refine AllObs.mk ?_ ?_
  ·refine Qh rfl rfl (by repeat' constructor) (X1 _ _ _ _) ?_
   rintro _ _ ⟨rfl, rfl⟩
   simp only [Qq]
   exact WpL.nil ⟨rfl, rfl, rfl, by exact Ent.refl _⟩
  refine AllObs.mk ?_ ?_
  ·refine s_quo rfl rfl rfl (by omega) (by omega) (by rw [show (bs.length : Int) / ((Qg M : Nat) : Int) = ((bs.length / Qg M : Nat) : Int) from rfl]; exact Qv (by omega) (by omega)) ?_
   rw [show (bs.length : Int) / ((Qg M : Nat) : Int) = ((bs.length / Qg M : Nat) : Int) from rfl]
   exact Qm rfl
  refine AllObs.mk ?_ ?_
  ·exact Qc rfl rfl (Qm rfl)
  exact AllObs.nil
 ·refine Wp.block ?_
  refine Wp.loopD (σ := SmX) (fun z => z.k ≤ (bs.length / Qg M)) [3, 4, 39, 40, 41, 42, 43, 44, 45, 46, 47, 48] (fun z => [(39, .int .i64 (z.k : Int)), (3, .slice z.a z.k z.c)]) (fun z => QH 3 1 z.a z.c z.k (QS ((Y0 (Qg M) bs).take z.k)) :: [Qy g [.int .i64 K, .int .i64 (W : Int), .int .i64 H, .int .i64 M, .slice a1 bs.length c1, .int .i64 n, .int .i64 rows, .int .i64 last, .int .i64 e] 198, QH 5 1 a1 c1 bs.length (Xa bs)]) (fun z => (bs.length / Qg M) - z.k) ⟨0, none, 0⟩ ?_ (by repeat (first | exact FrLe.nil | refine FrLe.cons rfl ?_)) ?_ ?_
  ·exact Nat.zero_le _
  ·exact Ent.own_nil (T := 3) (s := 1) (Ent.refl _)
  ·rintro ⟨k, aL, cL⟩ hk
   dsimp only at hk ⊢
   refine Qb (Qa (Xg rfl rfl rfl (WpL.nil (Qb (Qn rfl (fun h2 => ?_) (fun h2 => ?_))))))
   ·have hlt : k < (bs.length / Qg M) := by omega
    have hkw : (k + 1) * Qg M ≤ bs.length := Nat.le_trans (Nat.mul_le_mul_right _ hlt) (Nat.div_mul_le_self _ _)
    refine Wp.skip (Qb (Wp.block ?_))
    refine Qb (Qa (Qc rfl rfl (Qe rfl rfl (WpL.nil (Qa (Qc rfl rfl (Qc rfl rfl (Qc rfl rfl (Qh rfl rfl (by repeat' constructor) (RawSample_spec _ _ _ _ hR _ _ _ _ hbs (by omega) _ _ _ _ k hkw) ?_)))))))))
    rintro _ _ ⟨rfl, rfl⟩
    simp only [Qq]
    refine s_bs1 rfl rfl rfl rfl ?_
    intro g1
    refine Yl rfl rfl rfl (by repeat' constructor) (by rfl) (by rfl) (by rfl) (by rfl) (by omega) (by omega) ?_
    intro a47 c47
    rw [Y3, smps_take _ _ hlt]
    refine Qe rfl rfl (WpL.nil (Qa (QI rfl rfl rfl (Qv (by omega) (by omega)) ?_)))
    refine Qc rfl rfl (WpL.nil (QB (⟨k + 1, a47, c47⟩ : SmX) ?_ ?_ (by ((repeat (first | exact Top.refl | refine Top.push rfl ?_)); done)) (by repeat (first | exact FrLe.nil | refine FrLe.cons rfl ?_)) ?_))
    ·simp only; omega
    ·simp only; omega
    ·exact Ent.refl _
   ·have hke : k = (bs.length / Qg M) := by omega
    subst hke
    rw [List.take_of_length_le (by rw [Y6]; exact Nat.le_refl _)]
    refine QU (Qb (Qa (Yd rfl ?_)))
    intro gO
    refine WpL.nil (Qb (Qb (Qa (Qc rfl rfl (Qc rfl rfl (Qp rfl rfl (Qj (o2 := 0) rfl rfl rfl ?_)))))))
    refine QD (vs := [_, _, _, _]) rfl rfl rfl (by rfl) ?_
    refine Qh rfl rfl (by repeat' constructor) (Xb _ _ _ _ (by omega)) ?_
    rintro _ _ ⟨rfl, rfl⟩
    simp only [Qq]
    rw [show (if K % 3 = 0 then (3 : Int) else 1) = (((QT K).toNat : Nat) : Int) from by rw [Int.toNat_of_nonneg (by omega)]; rfl]
    have hrd : Yk K W (Qg M) bs = YW (QT K).toNat (Y0 (Qg M) bs) := by unfold Yk; rw [if_neg h4]
    obtain ⟨ls, hls⟩ : ∃ ls, ls = Y0 (Qg M) bs := ⟨_, rfl⟩
    rw [← hls] at hrd ⊢
    have hll : ls.length = (bs.length / Qg M) := by rw [hls, Y6]
    have hlsl : (bs.length / Qg M) = W * (QT K).toNat := by rw [hst]; exact strd_div hw h4
    refine WpL.ownLe (T := 3) (xs := QS ls) (by repeat' constructor) (fun hlc => ?_)
    refine s_fv rfl rfl rfl (Qh rfl rfl (by repeat' constructor) (chunk_spec _ _ _ _ (by omega)) ?_)
    rintro _ _ ⟨gs, gn, rfl, rfl⟩
    simp only [Qq]
    refine WpL.nil (Wp.block ?_)
    refine Wp.rangeF (encs := fun k : Nat => [.slice (sla aL (k * (QT K).toNat) ((k + 1) * (QT K).toNat) 1) (QT K).toNat (QT K).toNat]) (xs := List.range W) (QH := [Qy gs [.slice aL ((bs.length / Qg M)) cL] 26, Qy gn [.int .i64 (((QT K).toNat : Nat) : Int)] 3]) (own' := [Qy gs [.slice aL ((bs.length / Qg M)) cL] 26, Qy gn [.int .i64 (((QT K).toNat : Nat) : Int)] 3]) (m0 := [Qy gO [.slice none 0 0] 49, QH 3 1 aL cL ((bs.length / Qg M)) (QS ls), Qy g [.int .i64 K, .int .i64 (W : Int), .int .i64 H, .int .i64 M, .slice a1 bs.length c1, .int .i64 n, .int .i64 rows, .int .i64 last, .int .i64 e] 198, QH 5 1 a1 c1 bs.length (Xa bs), QH 92 1 none 0 0 []]) rfl rfl (chunk_iter aL cL ((bs.length / Qg M)) (QT K).toNat W (by omega) hlsl hlc (by omega) gs gn) (fun _ => rfl) rfl (fun k m => ∃ a9 c9, m = [Qy gO [.slice a9 k c9] 49, QH 3 1 aL cL ((bs.length / Qg M)) (QS ls), Qy g [.int .i64 K, .int .i64 (W : Int), .int .i64 H, .int .i64 M, .slice a1 bs.length c1, .int .i64 n, .int .i64 rows, .int .i64 last, .int .i64 e] 198, QH 5 1 a1 c1 bs.length (Xa bs), QH 92 1 a9 c9 (k) (XG ((YW (QT K).toNat ls).take (k)))]) (fun _ _ _ => False) ?_ ?_ ?_ ?_ ?_
    ·exact ⟨none, 0, by rw [List.take_zero]; rfl⟩
    ·simp only [Qq]
     exact (Ent.own_nil (T := 92) (s := 1) (Ent.refl _)).trans (Take.ent' (by repeat' constructor))
    ·intro y k hk m hm
     obtain ⟨a9, c9, rfl⟩ := hm
     rw [List.getElem_range]
     rw [List.length_range] at hk
     have hkc : k < ls.length / (QT K).toNat := by rw [hll, hlsl, Nat.mul_div_cancel _ (by omega)]; exact hk
     have hks := Y4 k (QT K).toNat
     have hkN1 : (k + 1) * (QT K).toNat ≤ ls.length := by rw [hll, hlsl]; exact Nat.mul_le_mul_right _ hk
     have hRo : RdsL [QH 3 1 aL cL ((bs.length / Qg M)) (QS ls)] aL (QS ls) := QM
     have hRw := hRo.sla (k * (QT K).toNat) ((k + 1) * (QT K).toNat) ((k + 1) * (QT K).toNat) 1 (Nat.le_refl _)
     rw [ints_sub, show (k + 1) * (QT K).toNat - k * (QT K).toNat = (QT K).toNat by omega] at hRw
     obtain ⟨one, hone⟩ : ∃ one, one = (ls.drop (k * (QT K).toNat)).take (QT K).toNat := ⟨_, rfl⟩
     have hol : one.length = (QT K).toNat := by rw [hone, List.length_take, List.length_drop]; omega
     rw [← hone] at hRw
     have hcs := chunkP_snoc (QT K).toNat ls hkc
     rw [← hone] at hcs
     have hPk := Pack_spec [QH 3 1 aL cL ((bs.length / Qg M)) (QS ls)] (sla aL (k * (QT K).toNat) ((k + 1) * (QT K).toNat) 1) (QT K).toNat one hRw (by omega)
     rw [hol] at hPk
     refine Qa (Qe rfl rfl (WpL.nil (⟨rfl, rfl, ?_⟩)))
     refine Wp.block ?_
     refine Qb (Qa (Qc rfl rfl (Qh rfl rfl (by repeat' constructor) (hPk) ?_)))
     rintro _ _ ⟨rfl, rfl⟩
     simp only [Qq]
     refine Qc rfl rfl (QF rfl rfl rfl (QF rfl rfl rfl (Qe rfl rfl (Qe rfl rfl (WpL.nil (Qa (Qo rfl rfl (by rfl) ?_)))))))
     refine Qc rfl rfl ?_
     refine s_bs1 rfl rfl rfl rfl ?_
     intro g3
     refine Yl rfl rfl rfl (by repeat' constructor) (by rfl) (by rfl) (by rfl) (by rfl) (by omega) (by omega) ?_
     intro a66 c66
     refine QZ rfl rfl rfl (WpL.nil ?_)
     rw [pxs_snoc, hcs]
     refine ⟨_, ⟨a66, c66, rfl⟩, ?_⟩
     exact Take.ent' (by repeat' constructor)
    ·intro q1 m hm
     obtain ⟨a9, c9, rfl⟩ := hm
     rw [List.length_range]
     simp only [Qq]
     rw [List.take_of_length_le (by rw [Y9, hll]; exact Nat.div_le_of_le_mul (by rw [Nat.mul_comm]; exact Nat.le_of_eq hlsl)), ← hrd]
     refine Qb (Qa (Qo rfl rfl (by rfl) ?_))
     refine Qe rfl rfl (WpL.nil (Qi ?_))
     apply RetQ.mkR [q1] rfl (by repeat' constructor)
     ·exact (Res.one rfl rfl)
     ·exact ⟨a9, c9, rfl, rfl⟩
     ·exact Take.ent' (by repeat' constructor)
    ·exact fun _ _ _ _ _ h => h.elim

end Go.Proofs.YtggamdlpiejbiaaGreat
