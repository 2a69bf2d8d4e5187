/- Walks and plain laws, a part of the proof of PnmOpen: every input that the law's guards let in, no condition beside. -/
import Derived.Test.YtggamdlpiejbiaaGreatM15
namespace Go.Proofs.YtggamdlpiejbiaaGreat
open Go.RowKit Go.Shelf


structure SmX where
  (k : Nat) (a : Option Addr) (c : Nat)
theorem smps_len (w : Nat) (b : List Int) : (smps w b).length = b.length / w := by simp [smps]
theorem smps_take (w : Nat) (b : List Int) {k : Nat} (h : k < b.length / w) : (smps w b).take k ++ [smpAt w b k] = (smps w b).take (k + 1) := by
  rw [List.take_succ_eq_append_getElem (by rw [smps_len]; exact h)]
  simp [smps]
theorem chunkP_len (ch : Nat) (l : List Int) : (chunkP ch l).length = l.length / ch := by simp [chunkP]
theorem chunkP_snoc (ch : Nat) (l : List Int) {k : Nat} (h : k < l.length / ch) : (chunkP ch l).take k ++ [(packS ((l.drop (k * ch)).take ch)).1] = (chunkP ch l).take (k + 1) := by
  rw [List.take_succ_eq_append_getElem (by rw [chunkP_len]; exact h)]
  simp [chunkP]
theorem ints_sub (px : List Int) (L H : Nat) : ((ints px).drop (L * 1)).take ((H - L) * 1) = ints ((px.drop L).take (H - L)) := by simp [ints, List.map_take, List.map_drop]
theorem strd_div {K : Int} {W w : Nat} (hw : w = 1 ∨ w = 2) (h : K ≠ 4) : strd K W w / w = W * (chK K).toNat := by
  unfold strd
  rw [if_neg h, Nat.mul_div_cancel _ (by omega)]
theorem rowD_len {K : Int} {W w : Nat} {bs : List Int} (hw : w = 1 ∨ w = 2) (h : bs.length = strd K W w) : (rowD K W w bs).length = W := by
  have hch := chK_13 K
  unfold rowD
  rw [chunkP_len]
  split
  · rename_i h4
    have : (chK K).toNat = 1 := by rw [h4]; rfl
    rw [this, ubits_len, Nat.div_one]
  · rename_i h4
    rw [smps_len, h, strd_div hw h4, Nat.mul_div_cancel _ (by omega)]

set_option maxHeartbeats 1000000 in
theorem RawRow_a (K : Int) (W : Nat) (H M : Int) (hR : RawH K (W : Int) H M) (g : Nat) (a1 : Option Addr) (c1 : Nat) (bs : List Int) (hbs : ∀ x ∈ bs, 0 ≤ x ∧ x ≤ 255) (hbl : bs.length ≤ 100000) (n rows last e : Int) (hst : bs.length = strd K W (wideM M)) (hbc : bs.length ≤ c1) (h4 : K = 4) : Fn Tryz.prog 168 #[.pointer (some ⟨g, 0, none⟩)] [blk g [.int .i64 K, .int .i64 (W : Int), .int .i64 H, .int .i64 M, .slice a1 bs.length c1, .int .i64 n, .int .i64 rows, .int .i64 last, .int .i64 e] 198, own 5 1 a1 c1 bs.length (u8s bs)] (fun v l => ∃ a3 c3, v = .slice a3 W c3 ∧ l = [blk g [.int .i64 K, .int .i64 (W : Int), .int .i64 H, .int .i64 M, .slice a1 bs.length c1, .int .i64 n, .int .i64 rows, .int .i64 last, .int .i64 e] 198, own 5 1 a1 c1 bs.length (u8s bs), own 92 1 a3 c3 W (pxs (rowD K W (wideM M) bs))]) := by
  have hb := hR.bd
  have hch := chK_13 K
  have hw := wideM_or M
  have hsb := strd_bd (K := K) (W := W) hw (by omega) (by omega)
  have hqd := Nat.div_le_self bs.length (wideM M)
  have hq0 : 0 ≤ (bs.length : Int) / ((wideM M : Nat) : Int) := Int.ediv_nonneg (by omega) (by omega)
  refine Fn.intro (vs := [.pointer (some ⟨g, 0, none⟩)]) Tryz.func168 rfl Tryz.ntmps168 rfl ?_
  refine Wp.seq ?_
  refine Wp.region ?_
  refine s_as rfl rfl ?_
  refine WpL.nil ?_
  refine Wp.seq ?_
  refine Wp.region ?_
  refine s_as rfl rfl ?_
  refine WpL.nil ?_
  refine Wp.seq ?_
  refine Wp.seq ?_
  refine Wp.region ?_
  refine s_mv rfl rfl ?_
  refine s_nc rfl rfl ?_
  refine s_fa (o2 := 0) rfl rfl rfl ?_
  refine s_fa (o2 := 0) rfl rfl rfl ?_
  refine s_ld rfl rfl (by rfl) ?_
  refine s_eq rfl rfl rfl ?_
  refine WpL.nil ?_
  refine Wp.condDT rfl h4 ?_
  apply Wp.drawGN (fB := []) mixed [(9, false)] (by kernel_rfl)
  apply GoR.segF [⟨0, 16, _, [], false⟩, ⟨1, 17, _, [0], false⟩, ⟨2, 18, _, [1], false⟩, ⟨3, 19, _, [2], false⟩, ⟨4, 20, _, [], false⟩, ⟨5, 21, _, [4], false⟩, ⟨6, 22, _, [5], false⟩, ⟨7, 23, _, [6], false⟩, ⟨8, 24, _, [7], false⟩] [] [0, 1, 2, 3, 4, 5, 6, 7, 8] [15, 26, 27, 3] (.inr rfl) rfl rfl rfl (by kernel_rfl) rfl rfl rfl
  · refine AllF.cons rfl rfl rfl rfl ?_ ?_
    · refine s_mv rfl rfl ?_
      exact obN rfl
    refine AllF.cons rfl rfl rfl rfl ?_ ?_
    · refine s_nc rfl rfl ?_
      exact obN rfl
    refine AllF.cons rfl rfl rfl rfl ?_ ?_
    · refine s_fa (o2 := 4) rfl rfl rfl ?_
      exact obN rfl
    refine AllF.cons rfl rfl rfl rfl ?_ ?_
    · refine s_ld rfl rfl (by rfl) ?_
      exact obN rfl
    refine AllF.cons rfl rfl rfl rfl ?_ ?_
    · refine s_mv rfl rfl ?_
      exact obN rfl
    refine AllF.cons rfl rfl rfl rfl ?_ ?_
    · refine s_nc rfl rfl ?_
      exact obN rfl
    refine AllF.cons rfl rfl rfl rfl ?_ ?_
    · refine s_fa (o2 := 0) rfl rfl rfl ?_
      exact obN rfl
    refine AllF.cons rfl rfl rfl rfl ?_ ?_
    · refine s_fa (o2 := 1) rfl rfl rfl ?_
      exact obN rfl
    refine AllF.cons rfl rfl rfl rfl ?_ ?_
    · refine s_ld rfl rfl (by rfl) ?_
      exact obN rfl
    exact AllF.nil
  · refine s_callf rfl rfl (by repeat' constructor) (UnpackB_spec _ _ _ bs RdsL.own hbs (by omega) W (by omega) (by rw [hst]; exact if_pos h4) hbc) ?_
    rintro _ _ ⟨aL, cL, rfl, rfl⟩
    simp only [napp]
    refine WpL.nil ⟨rfl, rfl, ?_⟩
    apply GoR.nil [⟨10, 15, _, [9], false⟩, ⟨11, 26, _, [10], false⟩, ⟨12, 27, _, [10], false⟩, ⟨13, 3, _, [0, 1, 2, 3, 4, 5, 6, 7, 8, 9, 10, 11], false⟩] (.inr rfl) rfl rfl
    · refine AllF.cons rfl rfl rfl rfl ?_ ?_
      · refine s_mv rfl rfl ?_
        exact obN rfl
      refine AllF.cons rfl rfl rfl rfl ?_ ?_
      · refine s_ext rfl rfl rfl ?_
        exact obN rfl
      refine AllF.cons rfl rfl rfl rfl ?_ ?_
      · refine s_ext rfl rfl rfl ?_
        exact obN rfl
      refine AllF.cons rfl rfl rfl rfl ?_ ?_
      · refine s_as rfl rfl ?_
        exact obN rfl
      exact AllF.nil
    · refine Wp.seq ?_
      refine Wp.region ?_
      refine s_al rfl ?_
      intro gO
      refine WpL.nil ?_
      refine Wp.seq ?_
      refine Wp.seq ?_
      refine Wp.region ?_
      refine s_mv rfl rfl ?_
      refine s_mv rfl rfl ?_
      refine s_nc rfl rfl ?_
      refine s_fa (o2 := 0) rfl rfl rfl ?_
      refine s_lda (vs := [_, _, _, _]) rfl rfl rfl (by rfl) ?_
      refine s_callf rfl rfl (by repeat' constructor) (Format_spec _ _ _ _ (by omega)) ?_
      rintro _ _ ⟨rfl, rfl⟩
      simp only [napp]
      rw [show (if K % 3 = 0 then (3 : Int) else 1) = (((chK K).toNat : Nat) : Int) from by rw [Int.toNat_of_nonneg (by omega)]; rfl]
      have hrd : rowD K W (wideM M) bs = chunkP (chK K).toNat (ubits bs W) := by unfold rowD; rw [if_pos h4]
      obtain ⟨ls, hls⟩ : ∃ ls, ls = ubits bs W := ⟨_, rfl⟩
      rw [← hls] at hrd ⊢
      have hll : ls.length = W := by rw [hls, ubits_len]
      have hlsl : W = W * (chK K).toNat := by rw [h4]; exact (Nat.mul_one W).symm
      refine WpL.ownLe (T := 3) (xs := ints ls) (by repeat' constructor) (fun hlc => ?_)
      refine s_fv rfl rfl rfl ?_
      refine s_callf rfl rfl (by repeat' constructor) (chunk_spec _ _ _ _ (by omega)) ?_
      rintro _ _ ⟨gs, gn, rfl, rfl⟩
      simp only [napp]
      refine WpL.nil ?_
      refine Wp.block ?_
      refine Wp.rangeF (encs := fun k : Nat => [.slice (sla aL (k * (chK K).toNat) ((k + 1) * (chK K).toNat) 1) (chK K).toNat (chK K).toNat]) (xs := List.range W) (own := [blk gs [.slice aL (W) cL] 26, blk gn [.int .i64 (((chK K).toNat : Nat) : Int)] 3]) (own' := [blk gs [.slice aL (W) cL] 26, blk gn [.int .i64 (((chK K).toNat : Nat) : Int)] 3]) (m0 := [blk gO [.slice none 0 0] 49, own 3 1 aL cL (W) (ints ls), blk g [.int .i64 K, .int .i64 (W : Int), .int .i64 H, .int .i64 M, .slice a1 bs.length c1, .int .i64 n, .int .i64 rows, .int .i64 last, .int .i64 e] 198, own 5 1 a1 c1 bs.length (u8s bs), own 92 1 none 0 0 []]) rfl rfl (chunk_iter aL cL (W) (chK K).toNat W (by omega) hlsl hlc (by omega) gs gn) (fun _ => rfl) rfl (fun k m => ∃ a9 c9, m = [blk gO [.slice a9 k c9] 49, own 3 1 aL cL (W) (ints ls), blk g [.int .i64 K, .int .i64 (W : Int), .int .i64 H, .int .i64 M, .slice a1 bs.length c1, .int .i64 n, .int .i64 rows, .int .i64 last, .int .i64 e] 198, own 5 1 a1 c1 bs.length (u8s bs), own 92 1 a9 c9 (k) (pxs ((chunkP (chK K).toNat ls).take (k)))]) (fun _ _ _ => False) ?_ ?_ ?_ ?_ ?_
      · exact ⟨none, 0, by rw [List.take_zero]; rfl⟩
      · simp only [napp]
        exact (Ent.own_nil (T := 92) (s := 1) (Ent.refl _)).trans (Take.ent' (by repeat' constructor))
      · intro y k hk m hm
        obtain ⟨a9, c9, rfl⟩ := hm
        rw [List.getElem_range]
        rw [List.length_range] at hk
        have hkc : k < ls.length / (chK K).toNat := by rw [hll, hlsl, Nat.mul_div_cancel _ (by omega)]; exact hk
        have hks := mul_succ' k (chK K).toNat
        have hkN1 : (k + 1) * (chK K).toNat ≤ ls.length := by rw [hll, hlsl]; exact Nat.mul_le_mul_right _ hk
        have hRo : RdsL [own 3 1 aL cL (W) (ints ls)] aL (ints ls) := RdsL.own
        have hRw := hRo.sla (k * (chK K).toNat) ((k + 1) * (chK K).toNat) ((k + 1) * (chK K).toNat) 1 (Nat.le_refl _)
        rw [ints_sub, show (k + 1) * (chK K).toNat - k * (chK K).toNat = (chK K).toNat by omega] at hRw
        obtain ⟨one, hone⟩ : ∃ one, one = (ls.drop (k * (chK K).toNat)).take (chK K).toNat := ⟨_, rfl⟩
        have hol : one.length = (chK K).toNat := by rw [hone, List.length_take, List.length_drop]; omega
        rw [← hone] at hRw
        have hcs := chunkP_snoc (chK K).toNat ls hkc
        rw [← hone] at hcs
        have hPk := Pack_spec [own 3 1 aL cL (W) (ints ls)] (sla aL (k * (chK K).toNat) ((k + 1) * (chK K).toNat) 1) (chK K).toNat one hRw (by omega)
        rw [hol] at hPk
        refine Wp.region ?_
        refine s_as rfl rfl ?_
        refine WpL.nil ?_
        refine ⟨rfl, rfl, ?_⟩
        refine Wp.block ?_
        refine Wp.seq ?_
        refine Wp.region ?_
        refine s_mv rfl rfl ?_
        refine s_callf rfl rfl (by repeat' constructor) (hPk) ?_
        rintro _ _ ⟨rfl, rfl⟩
        simp only [napp]
        refine s_mv rfl rfl ?_
        refine s_ext rfl rfl rfl ?_
        refine s_ext rfl rfl rfl ?_
        refine s_as rfl rfl ?_
        refine s_as rfl rfl ?_
        refine WpL.nil ?_
        refine Wp.region ?_
        refine s_ld rfl rfl (by rfl) ?_
        refine s_mv rfl rfl ?_
        refine s_bs1 rfl rfl rfl rfl ?_
        intro g2
        refine s_app1 rfl rfl rfl (by repeat' constructor) (by rfl) (by rfl) (by rfl) (by rfl) (by first | omega | (simp only [List.length_append, List.length_cons, List.length_nil] at *; omega)) (by first | omega | (simp only [List.length_append, List.length_cons, List.length_nil] at *; omega)) ?_
        intro a66 c66
        refine s_st rfl rfl rfl ?_
        refine WpL.nil ?_
        rw [pxs_snoc, hcs]
        refine ⟨_, ⟨a66, c66, rfl⟩, ?_⟩
        first | exact Ent.refl _ | exact Ent.nil _ | exact Take.ent' (by repeat' constructor) | (repeat (first | exact Ent.refl _ | refine Ent.drop ?_))
      · intro q1 m hm
        obtain ⟨a9, c9, rfl⟩ := hm
        rw [List.length_range]
        simp only [napp]
        rw [List.take_of_length_le (by rw [chunkP_len, hll]; exact Nat.div_le_of_le_mul (by rw [Nat.mul_comm]; exact Nat.le_of_eq hlsl)), ← hrd]
        refine Wp.seq ?_
        refine Wp.region ?_
        refine s_ld rfl rfl (by rfl) ?_
        refine s_as rfl rfl ?_
        refine WpL.nil ?_
        refine Wp.ret ?_
        apply RetQ.mkR [q1] rfl (by repeat' constructor)
        · exact (Res.one rfl rfl)
        · exact ⟨a9, c9, rfl, rfl⟩
        · first | exact Ent.refl _ | exact Ent.nil _ | exact Take.ent' (by repeat' constructor) | (repeat (first | exact Ent.refl _ | refine Ent.drop ?_))
      · exact fun _ _ _ _ _ h => h.elim

set_option maxHeartbeats 1000000 in
theorem RawRow_b (K : Int) (W : Nat) (H M : Int) (hR : RawH K (W : Int) H M) (g : Nat) (a1 : Option Addr) (c1 : Nat) (bs : List Int) (hbs : ∀ x ∈ bs, 0 ≤ x ∧ x ≤ 255) (hbl : bs.length ≤ 100000) (n rows last e : Int) (hst : bs.length = strd K W (wideM M)) (_hbc : bs.length ≤ c1) (h4 : K ≠ 4) : Fn Tryz.prog 168 #[.pointer (some ⟨g, 0, none⟩)] [blk g [.int .i64 K, .int .i64 (W : Int), .int .i64 H, .int .i64 M, .slice a1 bs.length c1, .int .i64 n, .int .i64 rows, .int .i64 last, .int .i64 e] 198, own 5 1 a1 c1 bs.length (u8s bs)] (fun v l => ∃ a3 c3, v = .slice a3 W c3 ∧ l = [blk g [.int .i64 K, .int .i64 (W : Int), .int .i64 H, .int .i64 M, .slice a1 bs.length c1, .int .i64 n, .int .i64 rows, .int .i64 last, .int .i64 e] 198, own 5 1 a1 c1 bs.length (u8s bs), own 92 1 a3 c3 W (pxs (rowD K W (wideM M) bs))]) := by
  have hb := hR.bd
  have hch := chK_13 K
  have hw := wideM_or M
  have hsb := strd_bd (K := K) (W := W) hw (by omega) (by omega)
  have hqd := Nat.div_le_self bs.length (wideM M)
  have hq0 : 0 ≤ (bs.length : Int) / ((wideM M : Nat) : Int) := Int.ediv_nonneg (by omega) (by omega)
  refine Fn.intro (vs := [.pointer (some ⟨g, 0, none⟩)]) Tryz.func168 rfl Tryz.ntmps168 rfl ?_
  refine Wp.seq ?_
  refine Wp.region ?_
  refine s_as rfl rfl ?_
  refine WpL.nil ?_
  refine Wp.seq ?_
  refine Wp.region ?_
  refine s_as rfl rfl ?_
  refine WpL.nil ?_
  refine Wp.seq ?_
  refine Wp.seq ?_
  refine Wp.region ?_
  refine s_mv rfl rfl ?_
  refine s_nc rfl rfl ?_
  refine s_fa (o2 := 0) rfl rfl rfl ?_
  refine s_fa (o2 := 0) rfl rfl rfl ?_
  refine s_ld rfl rfl (by rfl) ?_
  refine s_eq rfl rfl rfl ?_
  refine WpL.nil ?_
  refine Wp.condDF rfl h4 ?_
  refine Wp.seq ?_
  apply Wp.draw mixed [⟨28, _, []⟩, ⟨29, _, [0]⟩, ⟨30, _, [1]⟩, ⟨31, _, [2]⟩, ⟨32, _, [3]⟩, ⟨33, _, []⟩, ⟨34, _, [5]⟩, ⟨35, _, [6]⟩, ⟨36, _, [7]⟩, ⟨37, _, [8]⟩, ⟨38, _, [4, 9]⟩, ⟨39, _, []⟩] rfl
  · refine AllObs.mk ?_ ?_
    · refine s_mv rfl rfl ?_
      exact obN rfl
    refine AllObs.mk ?_ ?_
    · refine s_nc rfl rfl ?_
      exact obN rfl
    refine AllObs.mk ?_ ?_
    · refine s_fa (o2 := 4) rfl rfl rfl ?_
      exact obN rfl
    refine AllObs.mk ?_ ?_
    · refine s_ld rfl rfl (by rfl) ?_
      exact obN rfl
    refine AllObs.mk ?_ ?_
    · refine s_lenl rfl rfl ?_
      exact WpL.nil ⟨rfl, rfl, rfl, by first | exact Ent.refl _ | exact Ent.nil _ | exact Take.ent' (by repeat' constructor) | (repeat (first | exact Ent.refl _ | refine Ent.drop ?_))⟩
    refine AllObs.mk ?_ ?_
    · refine s_mv rfl rfl ?_
      exact obN rfl
    refine AllObs.mk ?_ ?_
    · refine s_nc rfl rfl ?_
      exact obN rfl
    refine AllObs.mk ?_ ?_
    · refine s_fa (o2 := 0) rfl rfl rfl ?_
      exact obN rfl
    refine AllObs.mk ?_ ?_
    · refine s_lda (vs := [_, _, _, _]) rfl rfl rfl (by rfl) ?_
      exact obN rfl
    refine AllObs.mk ?_ ?_
    · refine s_callf rfl rfl (by repeat' constructor) (wide_spec _ _ _ _) ?_
      rintro _ _ ⟨rfl, rfl⟩
      simp only [napp]
      exact WpL.nil ⟨rfl, rfl, rfl, by first | exact Ent.refl _ | exact Ent.nil _ | exact Take.ent' (by repeat' constructor) | (repeat (first | exact Ent.refl _ | refine Ent.drop ?_))⟩
    refine AllObs.mk ?_ ?_
    · refine s_quo rfl rfl rfl (by omega) (by omega) (by rw [show (bs.length : Int) / ((wideM M : Nat) : Int) = ((bs.length / wideM M : Nat) : Int) from rfl]; exact w_i64 (by omega) (by omega)) ?_
      rw [show (bs.length : Int) / ((wideM M : Nat) : Int) = ((bs.length / wideM M : Nat) : Int) from rfl]
      exact obN rfl
    refine AllObs.mk ?_ ?_
    · refine s_mv rfl rfl ?_
      exact obN rfl
    exact AllObs.nil
  · refine Wp.block ?_
    refine Wp.loopD (σ := SmX) (fun z => z.k ≤ (bs.length / wideM M)) [3, 4, 39, 40, 41, 42, 43, 44, 45, 46, 47, 48] (fun z => [(39, .int .i64 (z.k : Int)), (3, .slice z.a z.k z.c)]) (fun z => own 3 1 z.a z.c z.k (ints ((smps (wideM M) bs).take z.k)) :: [blk g [.int .i64 K, .int .i64 (W : Int), .int .i64 H, .int .i64 M, .slice a1 bs.length c1, .int .i64 n, .int .i64 rows, .int .i64 last, .int .i64 e] 198, own 5 1 a1 c1 bs.length (u8s bs)]) (fun z => (bs.length / wideM M) - z.k) ⟨0, none, 0⟩ ?_ (by repeat (first | exact FrLe.nil | refine FrLe.cons rfl ?_)) ?_ ?_
    · exact Nat.zero_le _
    · exact Ent.own_nil (T := 3) (s := 1) (Ent.refl _)
    · rintro ⟨k, aL, cL⟩ hk
      dsimp only at hk ⊢
      refine Wp.seq ?_
      refine Wp.region ?_
      refine s_lt rfl rfl rfl ?_
      refine WpL.nil ?_
      refine Wp.seq ?_
      refine Wp.condD rfl (fun h2 => ?_) (fun h2 => ?_)
      · have hlt : k < (bs.length / wideM M) := by omega
        have hkw : (k + 1) * wideM M ≤ bs.length := Nat.le_trans (Nat.mul_le_mul_right _ hlt) (Nat.div_mul_le_self _ _)
        refine Wp.skip ?_
        refine Wp.seq ?_
        refine Wp.block ?_
        refine Wp.seq ?_
        refine Wp.region ?_
        refine s_mv rfl rfl ?_
        refine s_as rfl rfl ?_
        refine WpL.nil ?_
        refine Wp.region ?_
        refine s_mv rfl rfl ?_
        refine s_mv rfl rfl ?_
        refine s_mv rfl rfl ?_
        refine s_callf rfl rfl (by repeat' constructor) (RawSample_spec _ _ _ _ hR _ _ _ _ hbs (by omega) _ _ _ _ k hkw) ?_
        rintro _ _ ⟨rfl, rfl⟩
        simp only [napp]
        refine s_bs1 rfl rfl rfl rfl ?_
        intro g1
        refine s_app1 rfl rfl rfl (by repeat' constructor) (by rfl) (by rfl) (by rfl) (by rfl) (by omega) (by omega) ?_
        intro a47 c47
        rw [ints_snoc, smps_take _ _ hlt]
        refine s_as rfl rfl ?_
        refine WpL.nil ?_
        refine Wp.region ?_
        first | refine s_add rfl rfl rfl (w_i64 (by omega) (by omega)) ?_ | refine s_addw rfl rfl rfl ?_
        refine s_mv rfl rfl ?_
        refine WpL.nil ?_
        refine loopD.next (⟨k + 1, a47, c47⟩ : SmX) ?_ ?_ (by first | ((repeat (first | exact Top.refl | refine Top.push rfl ?_ | refine Top.drop rfl ?_)); done) | exact Top.le (by repeat (first | exact FrLe.nil | refine FrLe.cons rfl ?_))) (by repeat (first | exact FrLe.nil | refine FrLe.cons rfl ?_)) ?_
        · simp only; omega
        · simp only; omega
        · first | exact Ent.refl _ | exact Ent.nil _ | exact Take.ent' (by repeat' constructor) | (repeat (first | exact Ent.refl _ | refine Ent.drop ?_))
      · have hke : k = (bs.length / wideM M) := by omega
        subst hke
        rw [List.take_of_length_le (by rw [smps_len]; exact Nat.le_refl _)]
        refine Wp.exit ?_
        refine Wp.seq ?_
        refine Wp.region ?_
        refine s_al rfl ?_
        intro gO
        refine WpL.nil ?_
        refine Wp.seq ?_
        refine Wp.seq ?_
        refine Wp.region ?_
        refine s_mv rfl rfl ?_
        refine s_mv rfl rfl ?_
        refine s_nc rfl rfl ?_
        refine s_fa (o2 := 0) rfl rfl rfl ?_
        refine s_lda (vs := [_, _, _, _]) rfl rfl rfl (by rfl) ?_
        refine s_callf rfl rfl (by repeat' constructor) (Format_spec _ _ _ _ (by omega)) ?_
        rintro _ _ ⟨rfl, rfl⟩
        simp only [napp]
        rw [show (if K % 3 = 0 then (3 : Int) else 1) = (((chK K).toNat : Nat) : Int) from by rw [Int.toNat_of_nonneg (by omega)]; rfl]
        have hrd : rowD K W (wideM M) bs = chunkP (chK K).toNat (smps (wideM M) bs) := by unfold rowD; rw [if_neg h4]
        obtain ⟨ls, hls⟩ : ∃ ls, ls = smps (wideM M) bs := ⟨_, rfl⟩
        rw [← hls] at hrd ⊢
        have hll : ls.length = (bs.length / wideM M) := by rw [hls, smps_len]
        have hlsl : (bs.length / wideM M) = W * (chK K).toNat := by rw [hst]; exact strd_div hw h4
        refine WpL.ownLe (T := 3) (xs := ints ls) (by repeat' constructor) (fun hlc => ?_)
        refine s_fv rfl rfl rfl ?_
        refine s_callf rfl rfl (by repeat' constructor) (chunk_spec _ _ _ _ (by omega)) ?_
        rintro _ _ ⟨gs, gn, rfl, rfl⟩
        simp only [napp]
        refine WpL.nil ?_
        refine Wp.block ?_
        refine Wp.rangeF (encs := fun k : Nat => [.slice (sla aL (k * (chK K).toNat) ((k + 1) * (chK K).toNat) 1) (chK K).toNat (chK K).toNat]) (xs := List.range W) (own := [blk gs [.slice aL ((bs.length / wideM M)) cL] 26, blk gn [.int .i64 (((chK K).toNat : Nat) : Int)] 3]) (own' := [blk gs [.slice aL ((bs.length / wideM M)) cL] 26, blk gn [.int .i64 (((chK K).toNat : Nat) : Int)] 3]) (m0 := [blk gO [.slice none 0 0] 49, own 3 1 aL cL ((bs.length / wideM M)) (ints ls), blk g [.int .i64 K, .int .i64 (W : Int), .int .i64 H, .int .i64 M, .slice a1 bs.length c1, .int .i64 n, .int .i64 rows, .int .i64 last, .int .i64 e] 198, own 5 1 a1 c1 bs.length (u8s bs), own 92 1 none 0 0 []]) rfl rfl (chunk_iter aL cL ((bs.length / wideM M)) (chK K).toNat W (by omega) hlsl hlc (by omega) gs gn) (fun _ => rfl) rfl (fun k m => ∃ a9 c9, m = [blk gO [.slice a9 k c9] 49, own 3 1 aL cL ((bs.length / wideM M)) (ints ls), blk g [.int .i64 K, .int .i64 (W : Int), .int .i64 H, .int .i64 M, .slice a1 bs.length c1, .int .i64 n, .int .i64 rows, .int .i64 last, .int .i64 e] 198, own 5 1 a1 c1 bs.length (u8s bs), own 92 1 a9 c9 (k) (pxs ((chunkP (chK K).toNat ls).take (k)))]) (fun _ _ _ => False) ?_ ?_ ?_ ?_ ?_
        · exact ⟨none, 0, by rw [List.take_zero]; rfl⟩
        · simp only [napp]
          exact (Ent.own_nil (T := 92) (s := 1) (Ent.refl _)).trans (Take.ent' (by repeat' constructor))
        · intro y k hk m hm
          obtain ⟨a9, c9, rfl⟩ := hm
          rw [List.getElem_range]
          rw [List.length_range] at hk
          have hkc : k < ls.length / (chK K).toNat := by rw [hll, hlsl, Nat.mul_div_cancel _ (by omega)]; exact hk
          have hks := mul_succ' k (chK K).toNat
          have hkN1 : (k + 1) * (chK K).toNat ≤ ls.length := by rw [hll, hlsl]; exact Nat.mul_le_mul_right _ hk
          have hRo : RdsL [own 3 1 aL cL ((bs.length / wideM M)) (ints ls)] aL (ints ls) := RdsL.own
          have hRw := hRo.sla (k * (chK K).toNat) ((k + 1) * (chK K).toNat) ((k + 1) * (chK K).toNat) 1 (Nat.le_refl _)
          rw [ints_sub, show (k + 1) * (chK K).toNat - k * (chK K).toNat = (chK K).toNat by omega] at hRw
          obtain ⟨one, hone⟩ : ∃ one, one = (ls.drop (k * (chK K).toNat)).take (chK K).toNat := ⟨_, rfl⟩
          have hol : one.length = (chK K).toNat := by rw [hone, List.length_take, List.length_drop]; omega
          rw [← hone] at hRw
          have hcs := chunkP_snoc (chK K).toNat ls hkc
          rw [← hone] at hcs
          have hPk := Pack_spec [own 3 1 aL cL ((bs.length / wideM M)) (ints ls)] (sla aL (k * (chK K).toNat) ((k + 1) * (chK K).toNat) 1) (chK K).toNat one hRw (by omega)
          rw [hol] at hPk
          refine Wp.region ?_
          refine s_as rfl rfl ?_
          refine WpL.nil ?_
          refine ⟨rfl, rfl, ?_⟩
          refine Wp.block ?_
          refine Wp.seq ?_
          refine Wp.region ?_
          refine s_mv rfl rfl ?_
          refine s_callf rfl rfl (by repeat' constructor) (hPk) ?_
          rintro _ _ ⟨rfl, rfl⟩
          simp only [napp]
          refine s_mv rfl rfl ?_
          refine s_ext rfl rfl rfl ?_
          refine s_ext rfl rfl rfl ?_
          refine s_as rfl rfl ?_
          refine s_as rfl rfl ?_
          refine WpL.nil ?_
          refine Wp.region ?_
          refine s_ld rfl rfl (by rfl) ?_
          refine s_mv rfl rfl ?_
          refine s_bs1 rfl rfl rfl rfl ?_
          intro g3
          refine s_app1 rfl rfl rfl (by repeat' constructor) (by rfl) (by rfl) (by rfl) (by rfl) (by first | omega | (simp only [List.length_append, List.length_cons, List.length_nil] at *; omega)) (by first | omega | (simp only [List.length_append, List.length_cons, List.length_nil] at *; omega)) ?_
          intro a66 c66
          refine s_st rfl rfl rfl ?_
          refine WpL.nil ?_
          rw [pxs_snoc, hcs]
          refine ⟨_, ⟨a66, c66, rfl⟩, ?_⟩
          first | exact Ent.refl _ | exact Ent.nil _ | exact Take.ent' (by repeat' constructor) | (repeat (first | exact Ent.refl _ | refine Ent.drop ?_))
        · intro q1 m hm
          obtain ⟨a9, c9, rfl⟩ := hm
          rw [List.length_range]
          simp only [napp]
          rw [List.take_of_length_le (by rw [chunkP_len, hll]; exact Nat.div_le_of_le_mul (by rw [Nat.mul_comm]; exact Nat.le_of_eq hlsl)), ← hrd]
          refine Wp.seq ?_
          refine Wp.region ?_
          refine s_ld rfl rfl (by rfl) ?_
          refine s_as rfl rfl ?_
          refine WpL.nil ?_
          refine Wp.ret ?_
          apply RetQ.mkR [q1] rfl (by repeat' constructor)
          · exact (Res.one rfl rfl)
          · exact ⟨a9, c9, rfl, rfl⟩
          · first | exact Ent.refl _ | exact Ent.nil _ | exact Take.ent' (by repeat' constructor) | (repeat (first | exact Ent.refl _ | refine Ent.drop ?_))
        · exact fun _ _ _ _ _ h => h.elim

end Go.Proofs.YtggamdlpiejbiaaGreat
