/- Walks and plain laws, a part of the proof of PnmOpen: every input that the law's guards let in, no condition beside. -/
import Derived.Test.YtggamdlpiejbiaaGreatM22
namespace Go.Proofs.YtggamdlpiejbiaaGreat
open Go.RowKit Go.Shelf


theorem chK_ref {K : Int} (hK : 4 ≤ K ∧ K ≤ 6) : (chK K).toNat = if K = 6 then 3 else 1 := by
  unfold chK
  split
  · rw [if_pos (by omega)]; rfl
  · rw [if_neg (by omega)]; rfl

set_option maxHeartbeats 1000000 in
theorem rRow_a (A0 : HP) (a0 : Option Addr) (c0 : Nat) (bs : List Int) (hA : RdsL [A0] a0 (u8s bs)) (hbs : ∀ x ∈ bs, 0 ≤ x ∧ x ≤ 255) (hc0 : bs.length ≤ c0) (hbl : bs.length ≤ 100000000000) (K : Int) (W H : Nat) (M : Int) (hR : RawH K (W : Int) (H : Int) M) (hst : bs.length = strd K W (wideM M)) (h4 : K = 4) : Fn Tryz.prog 110 #[.slice a0 bs.length c0, .agg #[.int .i64 K, .int .i64 (W : Int), .int .i64 (H : Int), .int .i64 M]] [A0] (fun v l => ∃ a c, v = .slice a W c ∧ l = [own 92 1 a c W (pxs (rowD K W (wideM M) bs)), A0]) := by
  have hb := hR.bd
  have hch := chK_13 K
  have hw := wideM_or M
  have hsb := strd_bd (K := K) (W := W) hw (by omega) (by omega)
  have hcr := chK_ref hb.1
  have hcr2 : chK K = 1 ∨ chK K = 3 := hch
  obtain ⟨ls, hls⟩ : ∃ ls, ls = (ubits bs W) := ⟨_, rfl⟩
  have hlsl : ls.length = W := by rw [hls]; simp [ubits]
  have hrow : (rowD K W (wideM M) bs) = chunkP (chK K).toNat ls := by unfold rowD; rw [if_pos h4, hls]
  have hlW : ls.length = W * (chK K).toNat := by rw [hlsl, show (chK K).toNat = 1 from by rw [h4]; rfl, Nat.mul_one]
  have hWc : W * (chK K).toNat ≤ 4096 * 3 := Nat.mul_le_mul (by omega) (by omega)
  refine Fn.intro (vs := [.slice a0 bs.length c0, .agg #[.int .i64 K, .int .i64 (W : Int), .int .i64 (H : Int), .int .i64 M]]) Tryz.func110 rfl Tryz.ntmps110 rfl ?_
  refine Wp.seq ?_
  refine Wp.region ?_
  refine s_box rfl rfl rfl ?_
  intro g1
  refine s_as rfl rfl ?_
  refine WpL.nil ?_
  refine Wp.seq ?_
  refine Wp.region ?_
  refine s_mv rfl rfl ?_
  refine s_lda (vs := [_, _, _, _]) rfl rfl rfl (by rfl) ?_
  refine s_callf rfl rfl (by repeat' constructor) (rSamples_spec A0 a0 c0 bs hA hbs hc0 hbl K (W : Int) (H : Int) M) ?_
  rintro _ _ ⟨a5, c5, rfl, rfl⟩
  simp only [napp]
  skip
  refine s_as rfl rfl ?_
  refine WpL.nil ?_
  refine Wp.seq ?_
  refine Wp.seq ?_
  refine Wp.region ?_
  refine s_fa (o2 := 0) rfl rfl rfl ?_
  refine s_ld rfl rfl (by rfl) ?_
  refine s_eq rfl rfl rfl ?_
  refine WpL.nil ?_
  refine Wp.condDT rfl h4 ?_
  refine Wp.seq ?_
  refine Wp.region ?_
  refine s_mv rfl rfl ?_
  refine s_fa (o2 := 1) rfl rfl rfl ?_
  refine s_ld rfl rfl (by rfl) ?_
  refine s_callf rfl rfl (by repeat' constructor) (rUnpackB_spec A0 a0 c0 bs hA hbs hc0 hbl W (by omega) (by rw [hst, show strd K W (wideM M) = (W + 7) / 8 from if_pos h4]; exact Nat.le_refl _)) ?_
  rintro _ _ ⟨a5, c5, rfl, rfl⟩
  simp only [napp]
  rw [← hls]
  refine s_mv rfl rfl ?_
  refine s_ext rfl rfl rfl ?_
  refine s_ext rfl rfl rfl ?_
  refine s_as rfl rfl ?_
  refine s_as rfl rfl ?_
  refine WpL.nil ?_
  refine Wp.region ?_
  refine s_mv rfl rfl ?_
  refine s_as rfl rfl ?_
  refine WpL.nil ?_
  refine Wp.seq ?_
  refine Wp.region ?_
  refine s_as rfl rfl ?_
  refine WpL.nil ?_
  refine Wp.seq ?_
  refine Wp.seq ?_
  refine Wp.region ?_
  refine s_fa (o2 := 0) rfl rfl rfl ?_
  refine s_ld rfl rfl (by rfl) ?_
  refine s_eq rfl rfl rfl ?_
  refine WpL.nil ?_
  refine Wp.condD rfl (fun h1 => ?_) (fun h1 => ?_)
  · have hcN : (chK K).toNat = 3 := by rw [hcr, if_pos h1]
    refine Wp.region ?_
    refine s_as rfl rfl ?_
    refine WpL.nil ?_
    refine Wp.seq ?_
    refine Wp.region ?_
    refine s_as rfl rfl ?_
    refine WpL.nil ?_
    refine Wp.seq ?_
    refine Wp.seq ?_
    refine Wp.region ?_
    refine s_as rfl rfl ?_
    refine WpL.nil ?_
    refine Wp.block ?_
    have hmulc := fun j : Nat => Nat.add_mul j 1 (chK K).toNat
    have hWc2 := hWc
    rw [hcN] at hWc2
    refine Wp.loopD (σ := SmX) (fun x => x.k ≤ W) [9, 10, 11, 12, 30, 31, 32, 33, 34, 35, 36, 37, 38, 39, 40, 41, 42, 43, 44, 45, 46, 47, 48, 49, 50, 51, 52] (fun x => [(10, .int .i64 ((x.k * (chK K).toNat : Nat) : Int)), (9, .slice x.a x.k x.c)]) (fun x => [own 92 1 x.a x.c x.k (pxs ((chunkP (chK K).toNat ls).take x.k)), own 3 1 a5 c5 W (ints ls), A0]) (fun x => W - x.k) ⟨0, none, 0⟩ ?_ (FrLe.cons (by rw [Nat.zero_mul]; rfl) (FrLe.cons rfl FrLe.nil)) ?_ ?_
    · exact Nat.zero_le _
    · exact (Ent.own_nil (T := 92) (s := 1) (Ent.refl _)).trans (Take.ent' (by repeat' constructor))
    · rintro ⟨j, a, c⟩ hj
      dsimp only at hj ⊢
      have hjb : j * (chK K).toNat ≤ 4096 * 3 := Nat.le_trans (Nat.mul_le_mul_right _ hj) hWc
      refine Wp.seq ?_
      refine Wp.seq ?_
      refine Wp.region ?_
      refine s_mv rfl rfl ?_
      refine s_mv rfl rfl ?_
      first | refine s_add rfl rfl rfl (w_i64 (by omega) (by omega)) ?_ | refine s_addw rfl rfl rfl ?_
      refine s_mv rfl rfl ?_
      refine s_lenl rfl rfl ?_
      refine s_le rfl rfl rfl ?_
      refine WpL.nil ?_
      refine Wp.condD rfl (fun h3 => ?_) (fun h3 => ?_)
      · have hjW : j < W := by rw [hcN] at h3 hlW; omega
        have hkc : j < ls.length / (chK K).toNat := by rw [hlW, Nat.mul_div_cancel _ (by omega)]; exact hjW
        have hcs := chunkP_snoc (chK K).toNat ls hkc
        have hL1 : (j + 1) * (chK K).toNat ≤ ls.length := by rw [hlW]; exact Nat.mul_le_mul_right _ hjW
        have hj1 := hmulc j
        obtain ⟨one, hone⟩ : ∃ one, one = (ls.drop (j * (chK K).toNat)).take (chK K).toNat := ⟨_, rfl⟩
        have hol : one.length = (chK K).toNat := by rw [hone, List.length_take, List.length_drop]; omega
        rw [← hone] at hcs
        refine Wp.skip ?_
        refine Wp.seq ?_
        refine Wp.block ?_
        refine Wp.seq ?_
        refine Wp.region ?_
        refine s_mv rfl rfl ?_
        refine s_mv rfl rfl ?_
        refine s_mv rfl rfl ?_
        refine s_mv rfl rfl ?_
        first | refine s_add rfl rfl rfl (w_i64 (by omega) (by omega)) ?_ | refine s_addw rfl rfl rfl ?_
        refine WpL.ownLe (T := 3) (xs := ints ls) (by repeat' constructor) (fun hlc => ?_)
        have hRo : RdsL [own 3 1 a5 c5 W (ints ls)] a5 (ints ls) := RdsL.own
        have hRw := hRo.sla (j * (chK K).toNat) ((j + 1) * (chK K).toNat) c5 1 (by omega)
        rw [ints_sub, show (j + 1) * (chK K).toNat - j * (chK K).toNat = (chK K).toNat by omega, ← hone] at hRw
        refine s_sll_lh (L := j * (chK K).toNat) (H := (j + 1) * (chK K).toNat) rfl rfl rfl rfl rfl (by rw [hj1, hcN]; push_cast; omega) (by omega) (by omega) ?_
        rw [show (j + 1) * (chK K).toNat - j * (chK K).toNat = one.length by omega]
        refine s_callf rfl rfl (by repeat' constructor) (rPack_spec [_] _ _ one hRw (by omega)) ?_
        rintro _ _ ⟨rfl, rfl⟩
        simp only [napp]
        refine s_mv rfl rfl ?_
        refine s_ext rfl rfl rfl ?_
        refine s_ext rfl rfl rfl ?_
        refine s_as rfl rfl ?_
        refine s_as rfl rfl ?_
        refine WpL.nil ?_
        refine Wp.region ?_
        refine s_mv rfl rfl ?_
        refine s_mv rfl rfl ?_
        refine s_bs1 rfl rfl rfl rfl ?_
        intro g2
        refine s_app1 rfl rfl rfl (by repeat' constructor) (by rfl) (by rfl) (by rfl) (by rfl) (by omega) (by omega) ?_
        intro a52 c52
        rw [pxs_snoc, hcs]
        refine s_as rfl rfl ?_
        refine WpL.nil ?_
        refine Wp.region ?_
        refine s_mv rfl rfl ?_
        refine s_mv rfl rfl ?_
        first | refine s_add rfl rfl rfl (w_i64 (by omega) (by omega)) ?_ | refine s_addw rfl rfl rfl ?_
        refine s_as rfl rfl ?_
        refine WpL.nil ?_
        refine loopD.next (⟨j + 1, a52, c52⟩ : SmX) ?_ ?_ (by first | ((repeat (first | exact Top.refl | refine Top.push rfl ?_ | refine Top.drop rfl ?_)); done) | exact Top.le (by repeat (first | exact FrLe.nil | refine FrLe.cons rfl ?_))) (FrLe.cons (by first | exact congrArg (fun z => some (Value.int .i64 z)) (show ((j * (chK K).toNat : Nat) : Int) + _ = _ by rw [hmulc, hcN]; push_cast; omega)) (FrLe.cons rfl FrLe.nil)) ?_
        · simp only; omega
        · simp only; omega
        · first | exact Ent.refl _ | exact Ent.nil _ | exact Take.ent' (by repeat' constructor) | (repeat (first | exact Ent.refl _ | refine Ent.drop ?_))
      · refine Wp.exit ?_
        refine Wp.seq ?_
        refine Wp.region ?_
        refine s_mv rfl rfl ?_
        refine s_as rfl rfl ?_
        refine WpL.nil ?_
        refine Wp.ret ?_
        have hjW : j = W := by rw [hcN] at h3 hlW; omega
        subst hjW
        rw [List.take_of_length_le (by rw [chunkP_len, hlW, Nat.mul_div_cancel _ (by omega)]; exact Nat.le_refl _), ← hrow]
        apply RetQ.mk
        · exact (Res.one rfl rfl)
        · exact ⟨a, c, rfl, rfl⟩
        · first | exact Ent.refl _ | exact Ent.nil _ | exact Take.ent' (by repeat' constructor) | (repeat (first | exact Ent.refl _ | refine Ent.drop ?_))
  · have hcN : (chK K).toNat = 1 := by rw [hcr, if_neg h1]
    refine Wp.skip ?_
    refine Wp.seq ?_
    refine Wp.region ?_
    refine s_as rfl rfl ?_
    refine WpL.nil ?_
    refine Wp.seq ?_
    refine Wp.seq ?_
    refine Wp.region ?_
    refine s_as rfl rfl ?_
    refine WpL.nil ?_
    refine Wp.block ?_
    have hmulc := fun j : Nat => Nat.add_mul j 1 (chK K).toNat
    have hWc2 := hWc
    rw [hcN] at hWc2
    refine Wp.loopD (σ := SmX) (fun x => x.k ≤ W) [9, 10, 11, 12, 30, 31, 32, 33, 34, 35, 36, 37, 38, 39, 40, 41, 42, 43, 44, 45, 46, 47, 48, 49, 50, 51, 52] (fun x => [(10, .int .i64 ((x.k * (chK K).toNat : Nat) : Int)), (9, .slice x.a x.k x.c)]) (fun x => [own 92 1 x.a x.c x.k (pxs ((chunkP (chK K).toNat ls).take x.k)), own 3 1 a5 c5 W (ints ls), A0]) (fun x => W - x.k) ⟨0, none, 0⟩ ?_ (FrLe.cons (by rw [Nat.zero_mul]; rfl) (FrLe.cons rfl FrLe.nil)) ?_ ?_
    · exact Nat.zero_le _
    · exact (Ent.own_nil (T := 92) (s := 1) (Ent.refl _)).trans (Take.ent' (by repeat' constructor))
    · rintro ⟨j, a, c⟩ hj
      dsimp only at hj ⊢
      have hjb : j * (chK K).toNat ≤ 4096 * 3 := Nat.le_trans (Nat.mul_le_mul_right _ hj) hWc
      refine Wp.seq ?_
      refine Wp.seq ?_
      refine Wp.region ?_
      refine s_mv rfl rfl ?_
      refine s_mv rfl rfl ?_
      first | refine s_add rfl rfl rfl (w_i64 (by omega) (by omega)) ?_ | refine s_addw rfl rfl rfl ?_
      refine s_mv rfl rfl ?_
      refine s_lenl rfl rfl ?_
      refine s_le rfl rfl rfl ?_
      refine WpL.nil ?_
      refine Wp.condD rfl (fun h3 => ?_) (fun h3 => ?_)
      · have hjW : j < W := by rw [hcN] at h3 hlW; omega
        have hkc : j < ls.length / (chK K).toNat := by rw [hlW, Nat.mul_div_cancel _ (by omega)]; exact hjW
        have hcs := chunkP_snoc (chK K).toNat ls hkc
        have hL1 : (j + 1) * (chK K).toNat ≤ ls.length := by rw [hlW]; exact Nat.mul_le_mul_right _ hjW
        have hj1 := hmulc j
        obtain ⟨one, hone⟩ : ∃ one, one = (ls.drop (j * (chK K).toNat)).take (chK K).toNat := ⟨_, rfl⟩
        have hol : one.length = (chK K).toNat := by rw [hone, List.length_take, List.length_drop]; omega
        rw [← hone] at hcs
        refine Wp.skip ?_
        refine Wp.seq ?_
        refine Wp.block ?_
        refine Wp.seq ?_
        refine Wp.region ?_
        refine s_mv rfl rfl ?_
        refine s_mv rfl rfl ?_
        refine s_mv rfl rfl ?_
        refine s_mv rfl rfl ?_
        first | refine s_add rfl rfl rfl (w_i64 (by omega) (by omega)) ?_ | refine s_addw rfl rfl rfl ?_
        refine WpL.ownLe (T := 3) (xs := ints ls) (by repeat' constructor) (fun hlc => ?_)
        have hRo : RdsL [own 3 1 a5 c5 W (ints ls)] a5 (ints ls) := RdsL.own
        have hRw := hRo.sla (j * (chK K).toNat) ((j + 1) * (chK K).toNat) c5 1 (by omega)
        rw [ints_sub, show (j + 1) * (chK K).toNat - j * (chK K).toNat = (chK K).toNat by omega, ← hone] at hRw
        refine s_sll_lh (L := j * (chK K).toNat) (H := (j + 1) * (chK K).toNat) rfl rfl rfl rfl rfl (by rw [hj1, hcN]; push_cast; omega) (by omega) (by omega) ?_
        rw [show (j + 1) * (chK K).toNat - j * (chK K).toNat = one.length by omega]
        refine s_callf rfl rfl (by repeat' constructor) (rPack_spec [_] _ _ one hRw (by omega)) ?_
        rintro _ _ ⟨rfl, rfl⟩
        simp only [napp]
        refine s_mv rfl rfl ?_
        refine s_ext rfl rfl rfl ?_
        refine s_ext rfl rfl rfl ?_
        refine s_as rfl rfl ?_
        refine s_as rfl rfl ?_
        refine WpL.nil ?_
        refine Wp.region ?_
        refine s_mv rfl rfl ?_
        refine s_mv rfl rfl ?_
        refine s_bs1 rfl rfl rfl rfl ?_
        intro g3
        refine s_app1 rfl rfl rfl (by repeat' constructor) (by rfl) (by rfl) (by rfl) (by rfl) (by omega) (by omega) ?_
        intro a52 c52
        rw [pxs_snoc, hcs]
        refine s_as rfl rfl ?_
        refine WpL.nil ?_
        refine Wp.region ?_
        refine s_mv rfl rfl ?_
        refine s_mv rfl rfl ?_
        first | refine s_add rfl rfl rfl (w_i64 (by omega) (by omega)) ?_ | refine s_addw rfl rfl rfl ?_
        refine s_as rfl rfl ?_
        refine WpL.nil ?_
        refine loopD.next (⟨j + 1, a52, c52⟩ : SmX) ?_ ?_ (by first | ((repeat (first | exact Top.refl | refine Top.push rfl ?_ | refine Top.drop rfl ?_)); done) | exact Top.le (by repeat (first | exact FrLe.nil | refine FrLe.cons rfl ?_))) (FrLe.cons (by first | exact congrArg (fun z => some (Value.int .i64 z)) (show ((j * (chK K).toNat : Nat) : Int) + _ = _ by rw [hmulc, hcN]; push_cast; omega)) (FrLe.cons rfl FrLe.nil)) ?_
        · simp only; omega
        · simp only; omega
        · first | exact Ent.refl _ | exact Ent.nil _ | exact Take.ent' (by repeat' constructor) | (repeat (first | exact Ent.refl _ | refine Ent.drop ?_))
      · refine Wp.exit ?_
        refine Wp.seq ?_
        refine Wp.region ?_
        refine s_mv rfl rfl ?_
        refine s_as rfl rfl ?_
        refine WpL.nil ?_
        refine Wp.ret ?_
        have hjW : j = W := by rw [hcN] at h3 hlW; omega
        subst hjW
        rw [List.take_of_length_le (by rw [chunkP_len, hlW, Nat.mul_div_cancel _ (by omega)]; exact Nat.le_refl _), ← hrow]
        apply RetQ.mk
        · exact (Res.one rfl rfl)
        · exact ⟨a, c, rfl, rfl⟩
        · first | exact Ent.refl _ | exact Ent.nil _ | exact Take.ent' (by repeat' constructor) | (repeat (first | exact Ent.refl _ | refine Ent.drop ?_))

set_option maxHeartbeats 1000000 in
theorem rRow_b (A0 : HP) (a0 : Option Addr) (c0 : Nat) (bs : List Int) (hA : RdsL [A0] a0 (u8s bs)) (hbs : ∀ x ∈ bs, 0 ≤ x ∧ x ≤ 255) (hc0 : bs.length ≤ c0) (hbl : bs.length ≤ 100000000000) (K : Int) (W H : Nat) (M : Int) (hR : RawH K (W : Int) (H : Int) M) (hst : bs.length = strd K W (wideM M)) (h4 : K ≠ 4) : Fn Tryz.prog 110 #[.slice a0 bs.length c0, .agg #[.int .i64 K, .int .i64 (W : Int), .int .i64 (H : Int), .int .i64 M]] [A0] (fun v l => ∃ a c, v = .slice a W c ∧ l = [own 92 1 a c W (pxs (rowD K W (wideM M) bs)), A0]) := by
  have hb := hR.bd
  have hch := chK_13 K
  have hw := wideM_or M
  have hsb := strd_bd (K := K) (W := W) hw (by omega) (by omega)
  have hcr := chK_ref hb.1
  have hcr2 : chK K = 1 ∨ chK K = 3 := hch
  obtain ⟨ls, hls⟩ : ∃ ls, ls = (smps (wideM M) bs) := ⟨_, rfl⟩
  have hlsl : ls.length = (smps (wideM M) bs).length := by rw [hls]
  have hrow : (rowD K W (wideM M) bs) = chunkP (chK K).toNat ls := by unfold rowD; rw [if_neg h4, hls]
  have hlW : ls.length = W * (chK K).toNat := by rw [hlsl, smps_len, hst, strd_div hw h4]
  have hWc : W * (chK K).toNat ≤ 4096 * 3 := Nat.mul_le_mul (by omega) (by omega)
  refine Fn.intro (vs := [.slice a0 bs.length c0, .agg #[.int .i64 K, .int .i64 (W : Int), .int .i64 (H : Int), .int .i64 M]]) Tryz.func110 rfl Tryz.ntmps110 rfl ?_
  refine Wp.seq ?_
  refine Wp.region ?_
  refine s_box rfl rfl rfl ?_
  intro g1
  refine s_as rfl rfl ?_
  refine WpL.nil ?_
  refine Wp.seq ?_
  refine Wp.region ?_
  refine s_mv rfl rfl ?_
  refine s_lda (vs := [_, _, _, _]) rfl rfl rfl (by rfl) ?_
  refine s_callf rfl rfl (by repeat' constructor) (rSamples_spec A0 a0 c0 bs hA hbs hc0 hbl K (W : Int) (H : Int) M) ?_
  rintro _ _ ⟨a5, c5, rfl, rfl⟩
  simp only [napp]
  rw [← hls]
  refine s_as rfl rfl ?_
  refine WpL.nil ?_
  refine Wp.seq ?_
  refine Wp.seq ?_
  refine Wp.region ?_
  refine s_fa (o2 := 0) rfl rfl rfl ?_
  refine s_ld rfl rfl (by rfl) ?_
  refine s_eq rfl rfl rfl ?_
  refine WpL.nil ?_
  refine Wp.condDF rfl h4 ?_
  refine Wp.skip ?_
  refine Wp.seq ?_
  refine Wp.region ?_
  refine s_as rfl rfl ?_
  refine WpL.nil ?_
  refine Wp.seq ?_
  refine Wp.seq ?_
  refine Wp.region ?_
  refine s_fa (o2 := 0) rfl rfl rfl ?_
  refine s_ld rfl rfl (by rfl) ?_
  refine s_eq rfl rfl rfl ?_
  refine WpL.nil ?_
  refine Wp.condD rfl (fun h1 => ?_) (fun h1 => ?_)
  · have hcN : (chK K).toNat = 3 := by rw [hcr, if_pos h1]
    refine Wp.region ?_
    refine s_as rfl rfl ?_
    refine WpL.nil ?_
    refine Wp.seq ?_
    refine Wp.region ?_
    refine s_as rfl rfl ?_
    refine WpL.nil ?_
    refine Wp.seq ?_
    refine Wp.seq ?_
    refine Wp.region ?_
    refine s_as rfl rfl ?_
    refine WpL.nil ?_
    refine Wp.block ?_
    have hmulc := fun j : Nat => Nat.add_mul j 1 (chK K).toNat
    have hWc2 := hWc
    rw [hcN] at hWc2
    refine Wp.loopD (σ := SmX) (fun x => x.k ≤ W) [9, 10, 11, 12, 30, 31, 32, 33, 34, 35, 36, 37, 38, 39, 40, 41, 42, 43, 44, 45, 46, 47, 48, 49, 50, 51, 52] (fun x => [(10, .int .i64 ((x.k * (chK K).toNat : Nat) : Int)), (9, .slice x.a x.k x.c)]) (fun x => [own 92 1 x.a x.c x.k (pxs ((chunkP (chK K).toNat ls).take x.k)), own 3 1 a5 c5 ls.length (ints ls), A0]) (fun x => W - x.k) ⟨0, none, 0⟩ ?_ (FrLe.cons (by rw [Nat.zero_mul]; rfl) (FrLe.cons rfl FrLe.nil)) ?_ ?_
    · exact Nat.zero_le _
    · exact (Ent.own_nil (T := 92) (s := 1) (Ent.refl _)).trans (Take.ent' (by repeat' constructor))
    · rintro ⟨j, a, c⟩ hj
      dsimp only at hj ⊢
      have hjb : j * (chK K).toNat ≤ 4096 * 3 := Nat.le_trans (Nat.mul_le_mul_right _ hj) hWc
      refine Wp.seq ?_
      refine Wp.seq ?_
      refine Wp.region ?_
      refine s_mv rfl rfl ?_
      refine s_mv rfl rfl ?_
      first | refine s_add rfl rfl rfl (w_i64 (by omega) (by omega)) ?_ | refine s_addw rfl rfl rfl ?_
      refine s_mv rfl rfl ?_
      refine s_lenl rfl rfl ?_
      refine s_le rfl rfl rfl ?_
      refine WpL.nil ?_
      refine Wp.condD rfl (fun h3 => ?_) (fun h3 => ?_)
      · have hjW : j < W := by rw [hcN] at h3 hlW; omega
        have hkc : j < ls.length / (chK K).toNat := by rw [hlW, Nat.mul_div_cancel _ (by omega)]; exact hjW
        have hcs := chunkP_snoc (chK K).toNat ls hkc
        have hL1 : (j + 1) * (chK K).toNat ≤ ls.length := by rw [hlW]; exact Nat.mul_le_mul_right _ hjW
        have hj1 := hmulc j
        obtain ⟨one, hone⟩ : ∃ one, one = (ls.drop (j * (chK K).toNat)).take (chK K).toNat := ⟨_, rfl⟩
        have hol : one.length = (chK K).toNat := by rw [hone, List.length_take, List.length_drop]; omega
        rw [← hone] at hcs
        refine Wp.skip ?_
        refine Wp.seq ?_
        refine Wp.block ?_
        refine Wp.seq ?_
        refine Wp.region ?_
        refine s_mv rfl rfl ?_
        refine s_mv rfl rfl ?_
        refine s_mv rfl rfl ?_
        refine s_mv rfl rfl ?_
        first | refine s_add rfl rfl rfl (w_i64 (by omega) (by omega)) ?_ | refine s_addw rfl rfl rfl ?_
        refine WpL.ownLe (T := 3) (xs := ints ls) (by repeat' constructor) (fun hlc => ?_)
        have hRo : RdsL [own 3 1 a5 c5 ls.length (ints ls)] a5 (ints ls) := RdsL.own
        have hRw := hRo.sla (j * (chK K).toNat) ((j + 1) * (chK K).toNat) c5 1 (by omega)
        rw [ints_sub, show (j + 1) * (chK K).toNat - j * (chK K).toNat = (chK K).toNat by omega, ← hone] at hRw
        refine s_sll_lh (L := j * (chK K).toNat) (H := (j + 1) * (chK K).toNat) rfl rfl rfl rfl rfl (by rw [hj1, hcN]; push_cast; omega) (by omega) (by omega) ?_
        rw [show (j + 1) * (chK K).toNat - j * (chK K).toNat = one.length by omega]
        refine s_callf rfl rfl (by repeat' constructor) (rPack_spec [_] _ _ one hRw (by omega)) ?_
        rintro _ _ ⟨rfl, rfl⟩
        simp only [napp]
        refine s_mv rfl rfl ?_
        refine s_ext rfl rfl rfl ?_
        refine s_ext rfl rfl rfl ?_
        refine s_as rfl rfl ?_
        refine s_as rfl rfl ?_
        refine WpL.nil ?_
        refine Wp.region ?_
        refine s_mv rfl rfl ?_
        refine s_mv rfl rfl ?_
        refine s_bs1 rfl rfl rfl rfl ?_
        intro g2
        refine s_app1 rfl rfl rfl (by repeat' constructor) (by rfl) (by rfl) (by rfl) (by rfl) (by omega) (by omega) ?_
        intro a52 c52
        rw [pxs_snoc, hcs]
        refine s_as rfl rfl ?_
        refine WpL.nil ?_
        refine Wp.region ?_
        refine s_mv rfl rfl ?_
        refine s_mv rfl rfl ?_
        first | refine s_add rfl rfl rfl (w_i64 (by omega) (by omega)) ?_ | refine s_addw rfl rfl rfl ?_
        refine s_as rfl rfl ?_
        refine WpL.nil ?_
        refine loopD.next (⟨j + 1, a52, c52⟩ : SmX) ?_ ?_ (by first | ((repeat (first | exact Top.refl | refine Top.push rfl ?_ | refine Top.drop rfl ?_)); done) | exact Top.le (by repeat (first | exact FrLe.nil | refine FrLe.cons rfl ?_))) (FrLe.cons (by first | exact congrArg (fun z => some (Value.int .i64 z)) (show ((j * (chK K).toNat : Nat) : Int) + _ = _ by rw [hmulc, hcN]; push_cast; omega)) (FrLe.cons rfl FrLe.nil)) ?_
        · simp only; omega
        · simp only; omega
        · first | exact Ent.refl _ | exact Ent.nil _ | exact Take.ent' (by repeat' constructor) | (repeat (first | exact Ent.refl _ | refine Ent.drop ?_))
      · refine Wp.exit ?_
        refine Wp.seq ?_
        refine Wp.region ?_
        refine s_mv rfl rfl ?_
        refine s_as rfl rfl ?_
        refine WpL.nil ?_
        refine Wp.ret ?_
        have hjW : j = W := by rw [hcN] at h3 hlW; omega
        subst hjW
        rw [List.take_of_length_le (by rw [chunkP_len, hlW, Nat.mul_div_cancel _ (by omega)]; exact Nat.le_refl _), ← hrow]
        apply RetQ.mk
        · exact (Res.one rfl rfl)
        · exact ⟨a, c, rfl, rfl⟩
        · first | exact Ent.refl _ | exact Ent.nil _ | exact Take.ent' (by repeat' constructor) | (repeat (first | exact Ent.refl _ | refine Ent.drop ?_))
  · have hcN : (chK K).toNat = 1 := by rw [hcr, if_neg h1]
    refine Wp.skip ?_
    refine Wp.seq ?_
    refine Wp.region ?_
    refine s_as rfl rfl ?_
    refine WpL.nil ?_
    refine Wp.seq ?_
    refine Wp.seq ?_
    refine Wp.region ?_
    refine s_as rfl rfl ?_
    refine WpL.nil ?_
    refine Wp.block ?_
    have hmulc := fun j : Nat => Nat.add_mul j 1 (chK K).toNat
    have hWc2 := hWc
    rw [hcN] at hWc2
    refine Wp.loopD (σ := SmX) (fun x => x.k ≤ W) [9, 10, 11, 12, 30, 31, 32, 33, 34, 35, 36, 37, 38, 39, 40, 41, 42, 43, 44, 45, 46, 47, 48, 49, 50, 51, 52] (fun x => [(10, .int .i64 ((x.k * (chK K).toNat : Nat) : Int)), (9, .slice x.a x.k x.c)]) (fun x => [own 92 1 x.a x.c x.k (pxs ((chunkP (chK K).toNat ls).take x.k)), own 3 1 a5 c5 ls.length (ints ls), A0]) (fun x => W - x.k) ⟨0, none, 0⟩ ?_ (FrLe.cons (by rw [Nat.zero_mul]; rfl) (FrLe.cons rfl FrLe.nil)) ?_ ?_
    · exact Nat.zero_le _
    · exact (Ent.own_nil (T := 92) (s := 1) (Ent.refl _)).trans (Take.ent' (by repeat' constructor))
    · rintro ⟨j, a, c⟩ hj
      dsimp only at hj ⊢
      have hjb : j * (chK K).toNat ≤ 4096 * 3 := Nat.le_trans (Nat.mul_le_mul_right _ hj) hWc
      refine Wp.seq ?_
      refine Wp.seq ?_
      refine Wp.region ?_
      refine s_mv rfl rfl ?_
      refine s_mv rfl rfl ?_
      first | refine s_add rfl rfl rfl (w_i64 (by omega) (by omega)) ?_ | refine s_addw rfl rfl rfl ?_
      refine s_mv rfl rfl ?_
      refine s_lenl rfl rfl ?_
      refine s_le rfl rfl rfl ?_
      refine WpL.nil ?_
      refine Wp.condD rfl (fun h3 => ?_) (fun h3 => ?_)
      · have hjW : j < W := by rw [hcN] at h3 hlW; omega
        have hkc : j < ls.length / (chK K).toNat := by rw [hlW, Nat.mul_div_cancel _ (by omega)]; exact hjW
        have hcs := chunkP_snoc (chK K).toNat ls hkc
        have hL1 : (j + 1) * (chK K).toNat ≤ ls.length := by rw [hlW]; exact Nat.mul_le_mul_right _ hjW
        have hj1 := hmulc j
        obtain ⟨one, hone⟩ : ∃ one, one = (ls.drop (j * (chK K).toNat)).take (chK K).toNat := ⟨_, rfl⟩
        have hol : one.length = (chK K).toNat := by rw [hone, List.length_take, List.length_drop]; omega
        rw [← hone] at hcs
        refine Wp.skip ?_
        refine Wp.seq ?_
        refine Wp.block ?_
        refine Wp.seq ?_
        refine Wp.region ?_
        refine s_mv rfl rfl ?_
        refine s_mv rfl rfl ?_
        refine s_mv rfl rfl ?_
        refine s_mv rfl rfl ?_
        first | refine s_add rfl rfl rfl (w_i64 (by omega) (by omega)) ?_ | refine s_addw rfl rfl rfl ?_
        refine WpL.ownLe (T := 3) (xs := ints ls) (by repeat' constructor) (fun hlc => ?_)
        have hRo : RdsL [own 3 1 a5 c5 ls.length (ints ls)] a5 (ints ls) := RdsL.own
        have hRw := hRo.sla (j * (chK K).toNat) ((j + 1) * (chK K).toNat) c5 1 (by omega)
        rw [ints_sub, show (j + 1) * (chK K).toNat - j * (chK K).toNat = (chK K).toNat by omega, ← hone] at hRw
        refine s_sll_lh (L := j * (chK K).toNat) (H := (j + 1) * (chK K).toNat) rfl rfl rfl rfl rfl (by rw [hj1, hcN]; push_cast; omega) (by omega) (by omega) ?_
        rw [show (j + 1) * (chK K).toNat - j * (chK K).toNat = one.length by omega]
        refine s_callf rfl rfl (by repeat' constructor) (rPack_spec [_] _ _ one hRw (by omega)) ?_
        rintro _ _ ⟨rfl, rfl⟩
        simp only [napp]
        refine s_mv rfl rfl ?_
        refine s_ext rfl rfl rfl ?_
        refine s_ext rfl rfl rfl ?_
        refine s_as rfl rfl ?_
        refine s_as rfl rfl ?_
        refine WpL.nil ?_
        refine Wp.region ?_
        refine s_mv rfl rfl ?_
        refine s_mv rfl rfl ?_
        refine s_bs1 rfl rfl rfl rfl ?_
        intro g3
        refine s_app1 rfl rfl rfl (by repeat' constructor) (by rfl) (by rfl) (by rfl) (by rfl) (by omega) (by omega) ?_
        intro a52 c52
        rw [pxs_snoc, hcs]
        refine s_as rfl rfl ?_
        refine WpL.nil ?_
        refine Wp.region ?_
        refine s_mv rfl rfl ?_
        refine s_mv rfl rfl ?_
        first | refine s_add rfl rfl rfl (w_i64 (by omega) (by omega)) ?_ | refine s_addw rfl rfl rfl ?_
        refine s_as rfl rfl ?_
        refine WpL.nil ?_
        refine loopD.next (⟨j + 1, a52, c52⟩ : SmX) ?_ ?_ (by first | ((repeat (first | exact Top.refl | refine Top.push rfl ?_ | refine Top.drop rfl ?_)); done) | exact Top.le (by repeat (first | exact FrLe.nil | refine FrLe.cons rfl ?_))) (FrLe.cons (by first | exact congrArg (fun z => some (Value.int .i64 z)) (show ((j * (chK K).toNat : Nat) : Int) + _ = _ by rw [hmulc, hcN]; push_cast; omega)) (FrLe.cons rfl FrLe.nil)) ?_
        · simp only; omega
        · simp only; omega
        · first | exact Ent.refl _ | exact Ent.nil _ | exact Take.ent' (by repeat' constructor) | (repeat (first | exact Ent.refl _ | refine Ent.drop ?_))
      · refine Wp.exit ?_
        refine Wp.seq ?_
        refine Wp.region ?_
        refine s_mv rfl rfl ?_
        refine s_as rfl rfl ?_
        refine WpL.nil ?_
        refine Wp.ret ?_
        have hjW : j = W := by rw [hcN] at h3 hlW; omega
        subst hjW
        rw [List.take_of_length_le (by rw [chunkP_len, hlW, Nat.mul_div_cancel _ (by omega)]; exact Nat.le_refl _), ← hrow]
        apply RetQ.mk
        · exact (Res.one rfl rfl)
        · exact ⟨a, c, rfl, rfl⟩
        · first | exact Ent.refl _ | exact Ent.nil _ | exact Take.ent' (by repeat' constructor) | (repeat (first | exact Ent.refl _ | refine Ent.drop ?_))

end Go.Proofs.YtggamdlpiejbiaaGreat
namespace Go.Proofs.YtggamdlpiejbiaaGreat
open Go.RowKit Go.Shelf

def psRun (l0 l1 l2 : Int) : PS → List Int → PS × List (Evt × Int)
  | s, [] => (s, [])
  | s, c :: bs => ((psRun l0 l1 l2 (psPut l0 l1 l2 s c).1 bs).1, ((psPut l0 l1 l2 s c).2.map fun x => (x, (psPut l0 l1 l2 s c).1.told)) ++ (psRun l0 l1 l2 (psPut l0 l1 l2 s c).1 bs).2)
def psFin (fin : Bool) (q : PS × List (Evt × Int)) : PS × List (Evt × Int) := if fin = true then ((psEnd q.1).1, q.2 ++ (psEnd q.1).2.map fun x => (x, q.1.told + 1)) else q
def papp (a : List (Evt × Int)) (q : PS × List (Evt × Int)) : PS × List (Evt × Int) := (q.1, a ++ q.2)
theorem papp_papp (a b : List (Evt × Int)) (q : PS × List (Evt × Int)) : papp a (papp b q) = papp (a ++ b) q := by simp [papp]
theorem papp_nil (q : PS × List (Evt × Int)) : papp [] q = q := rfl
theorem psFin_papp (fin : Bool) (a : List (Evt × Int)) (q : PS × List (Evt × Int)) : psFin fin (papp a q) = papp a (psFin fin q) := by
  unfold psFin papp
  split
  · simp
  · rfl
theorem psRun_cons (l0 l1 l2 : Int) (s : PS) (c : Int) (bs : List Int) : psRun l0 l1 l2 s (c :: bs) = papp ((psPut l0 l1 l2 s c).2.map fun x => (x, (psPut l0 l1 l2 s c).1.told)) (psRun l0 l1 l2 (psPut l0 l1 l2 s c).1 bs) := rfl
/-- All that a stream tells. -/
def psAll (l0 l1 l2 : Int) (fin : Bool) (bs : List Int) : PS × List (Evt × Int) := psFin fin (psRun l0 l1 l2 ps0 bs)
theorem psPut_ok (l0 l1 l2 : Int) {s : PS} {c : Int} (h : s.over = false) (he : s.e = 0) : psPut l0 l1 l2 s c = psStep l0 l1 l2 { s with told := s.told + 1 } c := if_neg (by rw [h, he]; simp)
theorem psPut_dead (l0 l1 l2 : Int) {s : PS} {c : Int} (h : s.over = true ∨ s.e ≠ 0) : psPut l0 l1 l2 s c = (s, []) := if_pos h
theorem psRun_dead (l0 l1 l2 : Int) : ∀ (bs : List Int) {s : PS}, (s.over = true ∨ s.e ≠ 0) → psRun l0 l1 l2 s bs = (s, [])
  | [], _, _ => rfl
  | c :: bs, s, h => by rw [psRun_cons, psPut_dead _ _ _ h, psRun_dead l0 l1 l2 bs h]; rfl
theorem psFin_dead {fin : Bool} {s : PS} {a : List (Evt × Int)} (h : s.over = true ∨ s.e ≠ 0) : psFin fin (s, a) = (s, a) := by
  unfold psFin
  split
  · have : psEnd s = (s, []) := if_pos h
    simp [this]
  · rfl
theorem run_blank (l0 l1 l2 : Int) {hd : Option HS} {told imgs c : Int} {bs : List Int} (hb : blankB c = true) : psRun l0 l1 l2 ⟨hd, 0, .no, told, imgs, false, 0⟩ (c :: bs) = psRun l0 l1 l2 ⟨hd, 0, .no, told + 1, imgs, false, 0⟩ bs := by
  have e : psPut l0 l1 l2 ⟨hd, 0, .no, told, imgs, false, 0⟩ c = (⟨hd, 0, .no, told + 1, imgs, false, 0⟩, []) := by
    rw [psPut_ok _ _ _ rfl rfl]
    exact (if_pos rfl).trans (if_pos hb)
  rw [psRun_cons, e]; rfl
theorem run_first (l0 l1 l2 : Int) {hd : Option HS} {told imgs c : Int} {bs : List Int} (hb : blankB c = false) : psRun l0 l1 l2 ⟨hd, 0, .no, told, imgs, false, 0⟩ (c :: bs) = psRun l0 l1 l2 ⟨some hd0, 1, .no, told, imgs, false, 0⟩ (c :: bs) := by
  have e : psPut l0 l1 l2 ⟨hd, 0, .no, told, imgs, false, 0⟩ c = psPut l0 l1 l2 ⟨some hd0, 1, .no, told, imgs, false, 0⟩ c := by
    rw [psPut_ok _ _ _ rfl rfl, psPut_ok _ _ _ rfl rfl]
    refine ((if_pos rfl).trans (if_neg (by rw [hb]; decide))).trans ?_
    refine Eq.trans ?_ ((if_neg (show ¬ (1 : Int) = 0 by decide)).trans (if_pos rfl)).symm
    unfold psHeads
    rfl
  rw [psRun_cons, psRun_cons, e]
def begE (h : HS) : Evt := ⟨1, chK h.K, h.M, h.W, h.H, []⟩
/-- A head, told byte by byte. -/
theorem run_head (l0 l1 l2 : Int) (hL : LimO l0 l1 l2) (imgs : Int) : ∀ (bs : List Int) (h : HS) (told : Int), hdJ l0 l1 l2 h →
    (((hdRun l0 l1 l2 h bs told).1.last = 0 ∧ (hdRun l0 l1 l2 h bs told).1.e = 9 ∧ psRun l0 l1 l2 ⟨some h, 1, .no, told, imgs, false, 0⟩ bs = (⟨some (hdRun l0 l1 l2 h bs told).1, 1, .no, told + bs.length, imgs, false, 0⟩, [])) ∨
    ((hdRun l0 l1 l2 h bs told).1.last = 2 ∧ 2 ≤ (hdRun l0 l1 l2 h bs told).1.e ∧ (hdRun l0 l1 l2 h bs told).1.e ≤ 4 ∧ psRun l0 l1 l2 ⟨some h, 1, .no, told, imgs, false, 0⟩ bs = (⟨some (hdRun l0 l1 l2 h bs told).1, 1, .no, (hdRun l0 l1 l2 h bs told).2, imgs, false, (hdRun l0 l1 l2 h bs told).1.e⟩, [])) ∨
    (HdFine (hdRun l0 l1 l2 h bs told).1 ∧ psRun l0 l1 l2 ⟨some h, 1, .no, told, imgs, false, 0⟩ bs = papp [(begE (hdRun l0 l1 l2 h bs told).1, (hdRun l0 l1 l2 h bs told).2)] (psRun l0 l1 l2 ⟨some (hdRun l0 l1 l2 h bs told).1, 2, bd0 (hdRun l0 l1 l2 h bs told).1, (hdRun l0 l1 l2 h bs told).2, imgs, false, 0⟩ (bs.drop ((hdRun l0 l1 l2 h bs told).2 - told).toNat)))) ∧
    told ≤ (hdRun l0 l1 l2 h bs told).2 ∧ (hdRun l0 l1 l2 h bs told).2 ≤ told + bs.length
  | [], h, told, hj => by
    refine ⟨.inl ⟨hj.1.1, hj.2.1, ?_⟩, by simp [hdRun], by simp [hdRun]⟩
    simp [hdRun, psRun]
  | c :: bs, h, told, hj => by
    have hst : psPut l0 l1 l2 ⟨some h, 1, .no, told, imgs, false, 0⟩ c = psHeads ⟨some h, 1, .no, told + 1, imgs, false, 0⟩ (hdPut l0 l1 l2 h c) := by
      rw [psPut_ok _ _ _ rfl rfl]
      exact (if_neg (show ¬ (1 : Int) = 0 by decide)).trans (if_pos rfl)
    rw [psRun_cons, hst, hdRun]
    rcases hdPut_ok (c := c) hL hj with hk | hk | hk
    · have h0 := hk.1.1
      have e : psHeads ⟨some h, 1, .no, told + 1, imgs, false, 0⟩ (hdPut l0 l1 l2 h c) = (⟨some (hdPut l0 l1 l2 h c), 1, .no, told + 1, imgs, false, 0⟩, []) := if_pos h0
      rw [e, if_neg (by rw [h0]; decide)]
      have ih := run_head l0 l1 l2 hL imgs bs (hdPut l0 l1 l2 h c) (told + 1) hk
      simp only [List.map_nil, papp_nil, List.length_cons]
      obtain ⟨ih, ih1, ih2⟩ := ih
      refine ⟨?_, by omega, by push_cast; omega⟩
      rcases ih with ⟨i1, i2, i3⟩ | ⟨i1, i2, i3, i4⟩ | ⟨i1, i2⟩
      · exact .inl ⟨i1, i2, by rw [i3]; congr 2; push_cast; omega⟩
      · exact .inr (.inl ⟨i1, i2, i3, i4⟩)
      · refine .inr (.inr ⟨i1, ?_⟩)
        rw [i2, show ((hdRun l0 l1 l2 (hdPut l0 l1 l2 h c) bs (told + 1)).2 - told).toNat = ((hdRun l0 l1 l2 (hdPut l0 l1 l2 h c) bs (told + 1)).2 - (told + 1)).toNat + 1 by omega]
        rfl
    · have h0 := hk.1
      have e : psHeads ⟨some h, 1, .no, told + 1, imgs, false, 0⟩ (hdPut l0 l1 l2 h c) = (⟨some (hdPut l0 l1 l2 h c), 1, .no, told + 1, imgs, false, (hdPut l0 l1 l2 h c).e⟩, []) := (if_neg (by rw [h0]; decide)).trans (if_pos (by have := hk.2.1; omega))
      rw [e, if_pos (by rw [h0]; decide)]
      simp only [List.map_nil, papp_nil, List.length_cons]
      refine ⟨.inr (.inl ⟨h0, hk.2.1, hk.2.2, psRun_dead _ _ _ _ (.inr (by have := hk.2.1; simp only; omega))⟩), by omega, by push_cast; omega⟩
    · have h0 := hk.1
      have e : psHeads ⟨some h, 1, .no, told + 1, imgs, false, 0⟩ (hdPut l0 l1 l2 h c) = (⟨some (hdPut l0 l1 l2 h c), 2, bd0 (hdPut l0 l1 l2 h c), told + 1, imgs, false, 0⟩, [begE (hdPut l0 l1 l2 h c)]) := (if_neg (by rw [h0]; decide)).trans (if_neg (fun q => q hk.2.1))
      rw [e, if_pos (by rw [h0]; decide)]
      simp only [List.map_cons, List.map_nil, List.length_cons]
      refine ⟨.inr (.inr ⟨hk, ?_⟩), by omega, by push_cast; omega⟩
      rw [show (told + 1 - told).toNat = 1 by omega]
      rfl
/-- What a raster's reading tells: its events, how many bytes of all were told behind it, the error (9: it goes on). -/
def BodyOut (l0 l1 l2 : Int) (fin : Bool) (h : HS) (bd : Bd) (bs : List Int) (at0 imgs : Int) (out : List (Evt × Int)) (to f : Int) : Prop :=
  (f = 0 → psFin fin (psRun l0 l1 l2 ⟨some h, 2, bd, at0, imgs, false, 0⟩ (bs.drop at0.toNat)) = papp out (psFin fin (psRun l0 l1 l2 ⟨some h, 0, .no, to, imgs + 1, false, 0⟩ (bs.drop to.toNat)))) ∧
  (f ≠ 0 → ∃ s', psFin fin (psRun l0 l1 l2 ⟨some h, 2, bd, at0, imgs, false, 0⟩ (bs.drop at0.toNat)) = (s', out) ∧ s'.e = (if f = 9 then 0 else f) ∧ s'.told = to ∧ s'.imgs = imgs)

end Go.Proofs.YtggamdlpiejbiaaGreat
namespace Go.Proofs.YtggamdlpiejbiaaGreat
open Go.RowKit Go.Shelf

def atE (es : List Evt) (n : Int) : List (Evt × Int) := es.map fun x => (x, n)
def dnE (n : Int) : Evt × Int := (⟨3, 0, 0, 0, 0, []⟩, n)
theorem run_evts (l0 l1 l2 : Int) {h : HS} {bd bd' : Bd} {told imgs c st e : Int} {row bs : List Int} (hp : psPut l0 l1 l2 ⟨some h, 2, bd, told, imgs, false, 0⟩ c = psEvts ⟨some h, 2, bd, told + 1, imgs, false, 0⟩ bd' st e row) :
    (st = 0 → psRun l0 l1 l2 ⟨some h, 2, bd, told, imgs, false, 0⟩ (c :: bs) = papp (atE (rowE row) (told + 1)) (psRun l0 l1 l2 ⟨some h, 2, bd', told + 1, imgs, false, 0⟩ bs)) ∧
    (st = 1 → psRun l0 l1 l2 ⟨some h, 2, bd, told, imgs, false, 0⟩ (c :: bs) = papp (atE (rowE row) (told + 1) ++ [dnE (told + 1)]) (psRun l0 l1 l2 ⟨some h, 0, .no, told + 1, imgs + 1, false, 0⟩ bs)) ∧
    (st = 2 → e ≠ 0 → psRun l0 l1 l2 ⟨some h, 2, bd, told, imgs, false, 0⟩ (c :: bs) = (⟨some h, 2, bd', told + 1, imgs, false, e⟩, atE (rowE row) (told + 1))) := by
  refine ⟨fun hs => ?_, fun hs => ?_, fun hs he => ?_⟩
  · subst hs
    rw [psRun_cons, hp]
    simp [psEvts, doneE, atE]
  · subst hs
    rw [psRun_cons, hp]
    simp [psEvts, doneE, atE, dnE]
  · subst hs
    rw [psRun_cons, hp]
    simp only [psEvts, if_true, doneE, show ¬ (2 : Int) = 1 from by decide, if_false, List.append_nil]
    rw [psRun_dead _ _ _ _ (.inr he)]
    simp [papp, atE]
theorem put_pl (l0 l1 l2 : Int) {h : HS} {r : RS} {told imgs c : Int} : psPut l0 l1 l2 ⟨some h, 2, .pl r, told, imgs, false, 0⟩ c = psEvts ⟨some h, 2, .pl r, told + 1, imgs, false, 0⟩ (.pl (putR h.K h.W h.H h.M r c).1) (putR h.K h.W h.H h.M r c).1.last (putR h.K h.W h.H h.M r c).1.e (putR h.K h.W h.H h.M r c).2 := by
  rw [psPut_ok _ _ _ rfl rfl]
  exact (if_neg (show ¬ (2 : Int) = 0 by decide)).trans (if_neg (show ¬ (2 : Int) = 1 by decide))
theorem put_rw (l0 l1 l2 : Int) {h : HS} {r : RW} {told imgs c : Int} : psPut l0 l1 l2 ⟨some h, 2, .rw r, told, imgs, false, 0⟩ c = psEvts ⟨some h, 2, .rw r, told + 1, imgs, false, 0⟩ (.rw (putW h.K h.W.toNat h.H h.M r c).1) (putW h.K h.W.toNat h.H h.M r c).1.last (putW h.K h.W.toNat h.H h.M r c).1.e (putW h.K h.W.toNat h.H h.M r c).2 := by
  rw [psPut_ok _ _ _ rfl rfl]
  exact (if_neg (show ¬ (2 : Int) = 0 by decide)).trans (if_neg (show ¬ (2 : Int) = 1 by decide))
/-- How a plain raster stands in the reference: its reader, the place, the events. -/
def plI (l0 l1 l2 : Int) (h : HS) (bs : List Int) (at0 : Nat) (imgs : Int) (r : RS) (at_ : Nat) (out : List (Evt × Int)) : Prop :=
  (r.last = 0 → psRun l0 l1 l2 ⟨some h, 2, .pl s0R, at0, imgs, false, 0⟩ (bs.drop at0) = papp out (psRun l0 l1 l2 ⟨some h, 2, .pl r, at_, imgs, false, 0⟩ (bs.drop at_))) ∧
  (r.last = 1 → psRun l0 l1 l2 ⟨some h, 2, .pl s0R, at0, imgs, false, 0⟩ (bs.drop at0) = papp (out ++ [dnE at_]) (psRun l0 l1 l2 ⟨some h, 0, .no, at_, imgs + 1, false, 0⟩ (bs.drop at_))) ∧
  (r.last = 2 → r.e ≠ 0 → psRun l0 l1 l2 ⟨some h, 2, .pl s0R, at0, imgs, false, 0⟩ (bs.drop at0) = (⟨some h, 2, .pl r, at_, imgs, false, r.e⟩, out))
theorem plI0 (l0 l1 l2 : Int) (h : HS) (bs : List Int) (at0 : Nat) (imgs : Int) : plI l0 l1 l2 h bs at0 imgs s0R at0 [] := ⟨fun _ => rfl, fun h => absurd h (by simp [s0R]), fun h => absurd h (by simp [s0R])⟩
theorem plI_step {l0 l1 l2 : Int} {h : HS} {bs : List Int} {at0 : Nat} {imgs : Int} {r r' : RS} {at_ : Nat} {out : List (Evt × Int)} {c : Int} {row : List Int} (hI : plI l0 l1 l2 h bs at0 imgs r at_ out) (hl : r.last = 0) (hc : bs.drop at_ = c :: bs.drop (at_ + 1)) (hp : (r', row) = putR h.K h.W h.H h.M r c) : plI l0 l1 l2 h bs at0 imgs r' (at_ + 1) (out ++ atE (rowE row) ((at_ + 1 : Nat) : Int)) := by
  have h0 := hI.1 hl
  have hq := put_pl l0 l1 l2 (h := h) (r := r) (told := at_) (imgs := imgs) (c := c)
  rw [← hp] at hq
  have hr := run_evts l0 l1 l2 (bs := bs.drop (at_ + 1)) hq
  rw [hc] at h0
  have hcast : ((at_ + 1 : Nat) : Int) = (at_ : Int) + 1 := by push_cast; rfl
  refine ⟨fun hs => ?_, fun hs => ?_, fun hs he => ?_⟩
  · rw [h0, hr.1 hs, papp_papp, hcast]
  · rw [h0, hr.2.1 hs, papp_papp, List.append_assoc, hcast]
  · rw [h0, hr.2.2 hs he, hcast]; rfl
theorem pl_done {l0 l1 l2 : Int} {fin : Bool} {h : HS} {bs : List Int} {at0 : Nat} {imgs : Int} {r : RS} {at_ : Nat} {out : List (Evt × Int)} (hI : plI l0 l1 l2 h bs at0 imgs r at_ out) (hl : r.last = 1) : BodyOut l0 l1 l2 fin h (.pl s0R) bs at0 imgs (out ++ [dnE at_]) at_ 0 := by
  refine ⟨fun _ => ?_, fun q => absurd rfl q⟩
  rw [Int.toNat_natCast, Int.toNat_natCast, hI.2.1 hl, psFin_papp]
theorem pl_wrong {l0 l1 l2 : Int} {fin : Bool} {h : HS} {bs : List Int} {at0 : Nat} {imgs : Int} {r : RS} {at_ : Nat} {out : List (Evt × Int)} (hI : plI l0 l1 l2 h bs at0 imgs r at_ out) (hl : r.last = 2) (he : r.e ≠ 0) (h9 : r.e ≠ 9) : BodyOut l0 l1 l2 fin h (.pl s0R) bs at0 imgs out at_ r.e := by
  refine ⟨fun q => absurd q he, fun _ => ⟨⟨some h, 2, .pl r, at_, imgs, false, r.e⟩, ?_, by rw [if_neg h9], rfl, rfl⟩⟩
  rw [Int.toNat_natCast, hI.2.2 hl he]
  exact psFin_dead (.inr he)
theorem pl_open {l0 l1 l2 : Int} {h : HS} {bs : List Int} {at0 : Nat} {imgs : Int} {r : RS} {at_ : Nat} {out : List (Evt × Int)} (hI : plI l0 l1 l2 h bs at0 imgs r at_ out) (hl : r.last = 0) (hat : bs.length ≤ at_) : BodyOut l0 l1 l2 false h (.pl s0R) bs at0 imgs out at_ 9 := by
  refine ⟨fun q => absurd q (by decide), fun _ => ⟨⟨some h, 2, .pl r, at_, imgs, false, 0⟩, ?_, by rw [if_pos rfl], rfl, rfl⟩⟩
  rw [Int.toNat_natCast, hI.1 hl, List.drop_of_length_le hat]
  simp [psRun, papp, psFin]
theorem end_pl {h : HS} {r : RS} {told imgs : Int} : psEnd ⟨some h, 2, .pl r, told, imgs, false, 0⟩ = psEvts ⟨some h, 2, .pl r, told, imgs, true, 0⟩ (.pl (endR h.K h.W h.H r).1) (endR h.K h.W h.H r).1.last (endR h.K h.W h.H r).1.e (endR h.K h.W h.H r).2 := if_neg (by simp)
theorem pl_end1 {l0 l1 l2 : Int} {h : HS} {bs : List Int} {at0 : Nat} {imgs : Int} {r r' : RS} {at_ : Nat} {out : List (Evt × Int)} {row : List Int} (hI : plI l0 l1 l2 h bs at0 imgs r at_ out) (hl : r.last = 0) (hat : bs.length ≤ at_) (he9 : h.e = 0) (hp : (r', row) = endR h.K h.W h.H r) (h1 : r'.last = 1) :
    BodyOut l0 l1 l2 true h (.pl s0R) bs at0 imgs ((out ++ atE (rowE row) ((at_ : Int) + 1)) ++ [dnE ((at_ : Int) + 1)]) at_ 0 := by
  refine ⟨fun _ => ?_, fun q => absurd rfl q⟩
  have hq := end_pl (h := h) (r := r) (told := at_) (imgs := imgs)
  rw [← hp] at hq
  have hz : psEnd ⟨some h, 0, .no, at_, imgs + 1, false, 0⟩ = (⟨some h, 0, .no, at_, imgs + 1, true, 0⟩, []) := (if_neg (by simp)).trans (if_neg (fun q => by have := q.2; simp [he9] at this))
  rw [Int.toNat_natCast, Int.toNat_natCast, hI.1 hl, List.drop_of_length_le hat]
  simp [psRun, papp, psFin, hq, psEvts, doneE, h1, hz, atE, dnE]
theorem pl_end2 {l0 l1 l2 : Int} {h : HS} {bs : List Int} {at0 : Nat} {imgs : Int} {r r' : RS} {at_ : Nat} {out : List (Evt × Int)} {row : List Int} (hI : plI l0 l1 l2 h bs at0 imgs r at_ out) (hl : r.last = 0) (hat : bs.length ≤ at_) (hp : (r', row) = endR h.K h.W h.H r) (h1 : r'.last = 2) (he : r'.e ≠ 0) (h9 : r'.e ≠ 9) :
    BodyOut l0 l1 l2 true h (.pl s0R) bs at0 imgs (out ++ atE (rowE row) ((at_ : Int) + 1)) at_ r'.e := by
  have hq := end_pl (h := h) (r := r) (told := at_) (imgs := imgs)
  rw [← hp] at hq
  refine ⟨fun q => absurd q he, fun _ => ⟨⟨some h, 2, .pl r', at_, imgs, true, r'.e⟩, ?_, by rw [if_neg h9], rfl, rfl⟩⟩
  rw [Int.toNat_natCast, hI.1 hl, List.drop_of_length_le hat]
  simp [psRun, papp, psFin, hq, psEvts, doneE, h1, atE]
theorem putR_e9 {K W H M c : Int} {s : RS} (hl : s.last = 0) (h : (putR K W H M s c).1.last = 2) : (putR K W H M s c).1.e ≠ 9 := by
  have hk := (stepR_keep K M s c).2.1
  unfold putR at h ⊢
  rw [if_neg (by omega)] at h ⊢
  split at h
  · rename_i hr
    rw [if_pos hr]
    show (stepR K M s c).2 ≠ 9
    have := @stepN_e (max s.n 0) c M
    unfold stepR bitR numR
    repeat' split
    all_goals first | decide | omega
  · rename_i hr
    exfalso
    unfold fullR at h
    split at h
    · rw [hk] at h; omega
    · simp only at h
      split at h
      · simp at h
      · rw [hk] at h; omega
theorem endR_e {K W H : Int} {s : RS} (hl : s.last = 0) (h : (endR K W H s).1.last = 2) : (endR K W H s).1.e = 6 := by
  have hk := (endsR_keep (chK K) s).2.1
  unfold endR at h ⊢
  rw [if_neg (by omega)] at h ⊢
  split at h
  · rename_i h1; rw [if_pos h1]; rfl
  · rename_i h1
    exfalso
    revert h h1
    unfold fullR
    split
    · intro h1 _; exact h1 (hk.trans hl)
    · simp only
      split
      · intro _ h; simp at h
      · intro h1 _; exact h1 (hk.trans hl)

end Go.Proofs.YtggamdlpiejbiaaGreat
