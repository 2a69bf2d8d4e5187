/- Walks. -/
import Derived.Test.YtpoahaadnbdgcaaRf2
namespace Go.Proofs.Ytpoahaadnbdgcaa
open Go.RowKit Go.Shelf


def aroundI (x m : Int) : Int := (if x < 0 then -(x + 1) else x) % m
theorem aroundI_bd {x m : Int} (h : 1 ≤ m) : 0 ≤ aroundI x m ∧ aroundI x m < m := ⟨Int.emod_nonneg _ (by omega), Int.emod_lt_of_pos _ (by omega)⟩
def fewS (s : ByteArray) (n : Int) : ByteArray := if (s.size : Int) > n then s.extract 0 n.toNat else s
theorem fewS_size {s : ByteArray} {n : Int} (h : 0 ≤ n) : ((fewS s n).size : Int) ≤ n := by
  unfold fewS
  split
  · simp [ByteArray.size_extract]; omega
  · omega
theorem take_eq_succ {xs ys : List Int} {k : Nat} (h : xs.take k = ys.take k) (h1 : k < xs.length) (h2 : k < ys.length) (e : xs[k] = ys[k]) : xs.take (k + 1) = ys.take (k + 1) := by
  rw [take_snoc' xs h1, take_snoc' ys h2, h, e]

theorem Around_spec (x m : Int) (h0 : -9223372036854775808 ≤ x) (h1 : x < 9223372036854775808) (hm : 1 ≤ m) : Fn Try.prog 36 #[.int .i64 x, .int .i64 m] [] (fun v l => v = .int .i64 (aroundI x m) ∧ l = []) := by
  refine Fn.intro (vs := [.int .i64 x, .int .i64 m]) Try.func36 rfl Try.ntmps36 rfl ?_
  refine Wp.seq ?_
  refine Wp.region ?_
  refine s_as rfl rfl ?_
  refine WpL.nil ?_
  refine Wp.seq ?_
  refine Wp.seq ?_
  refine Wp.region ?_
  refine s_mv rfl rfl ?_
  refine s_lt rfl rfl rfl ?_
  refine WpL.nil ?_
  refine Wp.condD rfl (fun h0 => ?_) (fun h0 => ?_)
  · refine Wp.region ?_
    refine s_mv rfl rfl ?_
    first | refine s_add rfl rfl rfl (w_i64 (by omega) (by omega)) ?_ | refine s_addw rfl rfl rfl ?_
    first | refine s_neg rfl rfl (w_i64 (by omega) (by omega)) ?_ | refine s_negw rfl rfl ?_
    refine s_as rfl rfl ?_
    refine WpL.nil ?_
    refine Wp.seq ?_
    refine Wp.region ?_
    refine s_mv rfl rfl ?_
    refine s_mv rfl rfl ?_
    refine s_rem rfl rfl rfl (by omega) (by omega) ?_
    refine s_as rfl rfl ?_
    refine WpL.nil ?_
    refine Wp.ret ?_
    apply RetQ.mk
    · exact (Res.one rfl rfl)
    · exact ⟨by rw [aroundI, if_pos h0], rfl⟩
    · first | exact Ent.refl _ | exact Ent.nil _ | exact Take.ent' (by repeat' constructor) | (repeat (first | exact Ent.refl _ | refine Ent.drop ?_))
  · refine Wp.skip ?_
    refine Wp.seq ?_
    refine Wp.region ?_
    refine s_mv rfl rfl ?_
    refine s_mv rfl rfl ?_
    refine s_rem rfl rfl rfl (by omega) (by omega) ?_
    refine s_as rfl rfl ?_
    refine WpL.nil ?_
    refine Wp.ret ?_
    apply RetQ.mk
    · exact (Res.one rfl rfl)
    · exact ⟨by rw [aroundI, if_neg h0], rfl⟩
    · first | exact Ent.refl _ | exact Ent.nil _ | exact Take.ent' (by repeat' constructor) | (repeat (first | exact Ent.refl _ | refine Ent.drop ?_))


theorem SameRow_spec (As : List HP) (a b : Option Addr) (c d : Nat) (xs ys : List Int) (hA : RdsL As a (pxs xs)) (hB : RdsL As b (pxs ys)) (hm : xs.length ≤ 281474976710656) : Fn Try.prog 10 #[.slice a xs.length c, .slice b ys.length d] As (fun v l => v = .bool (decide (xs = ys)) ∧ l = As) := by
  refine Fn.intro (vs := [.slice a xs.length c, .slice b ys.length d]) Try.func10 rfl Try.ntmps10 rfl ?_
  refine Wp.seq ?_
  refine Wp.region ?_
  refine s_as rfl rfl ?_
  refine WpL.nil ?_
  refine Wp.seq ?_
  refine Wp.seq ?_
  refine Wp.region ?_
  refine s_mv rfl rfl ?_
  refine s_lenl rfl rfl ?_
  refine s_mv rfl rfl ?_
  refine s_lenl rfl rfl ?_
  refine s_ne rfl rfl rfl ?_
  refine WpL.nil ?_
  refine Wp.condD rfl (fun h0 => ?_) (fun h0 => ?_)
  · refine Wp.seq ?_
    refine Wp.region ?_
    refine s_as rfl rfl ?_
    refine WpL.nil ?_
    refine Wp.ret ?_
    apply RetQ.mk
    · exact (Res.one rfl rfl)
    · exact ⟨congrArg Value.bool (df (fun h => h0 (by rw [h]))), rfl⟩
    · first | exact Ent.refl _ | exact Ent.nil _ | exact Take.ent' (by repeat' constructor) | (repeat (first | exact Ent.refl _ | refine Ent.drop ?_))
  · refine Wp.skip ?_
    refine Wp.seq ?_
    refine Wp.seq ?_
    refine Wp.region ?_
    refine s_as rfl rfl ?_
    refine WpL.nil ?_
    refine Wp.block ?_
    refine Wp.loopD (σ := Nat) (fun k => k ≤ xs.length ∧ xs.take k = ys.take k) [4, 5, 11, 12, 13, 14, 15, 16, 17, 18, 19, 20, 21, 22, 23, 24, 25] (fun k => [(5, .int .i64 (k : Int))]) (fun _ => _) (fun k => xs.length - k) 0 ?_ (by repeat (first | exact FrLe.nil | refine FrLe.cons rfl ?_)) (Ent.refl _) ?_
    · exact ⟨Nat.zero_le _, by simp⟩
    · rintro k ⟨hk, htk⟩
      refine Wp.seq ?_
      refine Wp.seq ?_
      refine Wp.region ?_
      refine s_mv rfl rfl ?_
      refine s_mv rfl rfl ?_
      refine s_lenl rfl rfl ?_
      refine s_lt rfl rfl rfl ?_
      refine WpL.nil ?_
      refine Wp.condD rfl (fun h2 => ?_) (fun h2 => ?_)
      · have hlt : k < xs.length := by omega
        refine Wp.skip ?_
        refine Wp.seq ?_
        refine Wp.block ?_
        refine Wp.seq ?_
        apply Wp.draw mixed [⟨17, _, []⟩, ⟨18, _, []⟩, ⟨19, _, [0, 1]⟩, ⟨20, _, [2]⟩, ⟨21, _, []⟩, ⟨22, _, []⟩, ⟨23, _, [4, 5]⟩, ⟨24, _, [6]⟩, ⟨25, _, [3, 7]⟩] rfl
        · refine AllObs.mk ?_ ?_
          · refine s_mv rfl rfl ?_
            exact obN rfl
          refine AllObs.mk ?_ ?_
          · refine s_mv rfl rfl ?_
            exact obN rfl
          refine AllObs.mk ?_ ?_
          · refine s_ixa k rfl rfl rfl hA (by first | exact Take.ent' (by repeat' constructor) | (repeat (first | exact Ent.refl _ | refine Ent.drop ?_))) rfl (by omega) (by rw [pxs_len]; omega) ?_
            exact obN rfl
          refine AllObs.mk ?_ ?_
          · refine s_ldx rfl rfl hA (by first | exact Take.ent' (by repeat' constructor) | (repeat (first | exact Ent.refl _ | refine Ent.drop ?_))) (pxs_at xs (by omega : k < xs.length)) ?_
            exact obN rfl
          refine AllObs.mk ?_ ?_
          · refine s_mv rfl rfl ?_
            exact obN rfl
          refine AllObs.mk ?_ ?_
          · refine s_mv rfl rfl ?_
            exact obN rfl
          refine AllObs.mk ?_ ?_
          · refine s_ixa k rfl rfl rfl hB (by first | exact Take.ent' (by repeat' constructor) | (repeat (first | exact Ent.refl _ | refine Ent.drop ?_))) rfl (by omega) (by rw [pxs_len]; omega) ?_
            exact obN rfl
          refine AllObs.mk ?_ ?_
          · refine s_ldx rfl rfl hB (by first | exact Take.ent' (by repeat' constructor) | (repeat (first | exact Ent.refl _ | refine Ent.drop ?_))) (pxs_at ys (by omega : k < ys.length)) ?_
            exact obN rfl
          refine AllObs.mk ?_ ?_
          · refine s_ne rfl rfl rfl ?_
            exact obN rfl
          exact AllObs.nil
        · refine Wp.condD rfl (fun h3 => ?_) (fun h3 => ?_)
          · refine Wp.seq ?_
            refine Wp.region ?_
            refine s_as rfl rfl ?_
            refine WpL.nil ?_
            refine Wp.ret ?_
            apply RetQ.mk
            · exact (Res.one rfl rfl)
            · exact ⟨congrArg Value.bool (df (fun h => h3 (by subst h; rfl))), rfl⟩
            · first | exact Ent.refl _ | exact Ent.nil _ | exact Take.ent' (by repeat' constructor) | (repeat (first | exact Ent.refl _ | refine Ent.drop ?_))
          · refine Wp.skip ?_
            refine Wp.region ?_
            refine s_mv rfl rfl ?_
            first | refine s_add rfl rfl rfl (w_i64 (by omega) (by omega)) ?_ | refine s_addw rfl rfl rfl ?_
            refine s_as rfl rfl ?_
            refine WpL.nil ?_
            refine loopD.next (k + 1) ?_ ?_ (by repeat (first | exact Top.refl | refine Top.push rfl ?_ | refine Top.drop rfl ?_)) (by repeat (first | exact FrLe.nil | refine FrLe.cons rfl ?_)) ?_
            · exact ⟨by omega, take_eq_succ htk hlt (by omega) (by omega)⟩
            · omega
            · first | exact Ent.refl _ | exact Ent.nil _ | exact Take.ent' (by repeat' constructor) | (repeat (first | exact Ent.refl _ | refine Ent.drop ?_))
      · refine Wp.exit ?_
        refine Wp.seq ?_
        refine Wp.region ?_
        refine s_as rfl rfl ?_
        refine WpL.nil ?_
        refine Wp.ret ?_
        apply RetQ.mk
        · exact (Res.one rfl rfl)
        · refine ⟨congrArg Value.bool (dt ?_), rfl⟩
          have hke : k = xs.length := by omega
          rw [hke, List.take_length, show xs.length = ys.length by omega, List.take_length] at htk
          exact htk
        · first | exact Ent.refl _ | exact Ent.nil _ | exact Take.ent' (by repeat' constructor) | (repeat (first | exact Ent.refl _ | refine Ent.drop ?_))


def gdM (K M : Int) : Int := if K = 1 ∨ K = 4 then 1 else 1 + aroundI M 65535
def gdK (K : Int) : Int := 1 + aroundI K 6
def hdK (K : Int) : Int := if gdK K > 3 then gdK K - 3 else gdK K
theorem gdK_bd (K : Int) : 1 ≤ gdK K ∧ gdK K ≤ 6 := by have := aroundI_bd (x := K) (m := 6) (by omega); unfold gdK; omega
theorem gdM_bd (K M : Int) : 1 ≤ gdM K M ∧ gdM K M ≤ 65535 := by have := aroundI_bd (x := M) (m := 65535) (by omega); unfold gdM; split <;> omega

theorem Good_spec (K W H M m : Int) (k0 : -9223372036854775808 ≤ K) (k1 : K < 9223372036854775808) (w0 : -9223372036854775808 ≤ W) (w1 : W < 9223372036854775808) (h0 : -9223372036854775808 ≤ H) (h1 : H < 9223372036854775808) (m0 : -9223372036854775808 ≤ M) (m1 : M < 9223372036854775808) (hm : 1 ≤ m) (hm2 : m ≤ 2 ^ 30) : Fn Try.prog 12 #[.agg #[.int .i64 K, .int .i64 W, .int .i64 H, .int .i64 M], .int .i64 m] [] (fun v l => v = .agg #[.int .i64 (gdK K), .int .i64 (1 + aroundI W m), .int .i64 (1 + aroundI H m), .int .i64 (gdM (gdK K) M)] ∧ l = []) := by
  have hb1 := aroundI_bd (x := K) (m := 6) (by omega)
  have hb2 := aroundI_bd (x := W) (m := m) (by omega)
  have hb3 := aroundI_bd (x := H) (m := m) (by omega)
  have hb4 := aroundI_bd (x := M) (m := 65535) (by omega)
  refine Fn.intro (vs := [.agg #[.int .i64 K, .int .i64 W, .int .i64 H, .int .i64 M], .int .i64 m]) Try.func12 rfl Try.ntmps12 rfl ?_
  refine Wp.seq ?_
  refine Wp.region ?_
  refine s_box rfl rfl rfl ?_
  intro g1
  refine s_al rfl ?_
  intro g2
  refine WpL.nil ?_
  refine Wp.seq ?_
  apply Wp.drawGA (fB := []) mixed 15 [(15, true)] rfl rfl (by kernel_rfl)
  apply GoR.segT [⟨0, 6, _, [], false⟩, ⟨1, 7, _, [0], false⟩, ⟨2, 8, _, [1], false⟩, ⟨3, 9, _, [2], false⟩, ⟨4, 10, _, [], false⟩, ⟨5, 11, _, [4], false⟩, ⟨6, 12, _, [], false⟩, ⟨7, 13, _, [2, 5, 6], false⟩, ⟨8, 14, _, [7], false⟩, ⟨9, 15, _, [], false⟩, ⟨10, 16, _, [9], false⟩, ⟨11, 17, _, [], false⟩, ⟨12, 18, _, [7, 10, 11], false⟩, ⟨13, 19, _, [12], false⟩, ⟨14, 20, _, [3, 8, 13], false⟩] [] [0, 1, 2, 3, 4, 5, 6, 7, 8, 9, 10, 11, 12, 13, 14] [] ⟨_, .nil⟩ rfl rfl rfl (by kernel_rfl) rfl rfl rfl rfl
  · refine AllF.cons rfl rfl rfl rfl ?_ ?_
    · refine s_fa (o2 := 0) rfl rfl rfl ?_
      exact obN rfl
    refine AllF.cons rfl rfl rfl rfl ?_ ?_
    · refine s_ld rfl rfl (by rfl) ?_
      exact obN rfl
    refine AllF.cons rfl rfl rfl rfl ?_ ?_
    · refine s_callf rfl rfl (by repeat' constructor) (Around_spec _ _ (by omega) (by omega) (by omega)) ?_
      rintro _ _ ⟨rfl, rfl⟩
      simp only [napp]
      exact WpL.nil ⟨rfl, rfl, rfl, by first | exact Ent.refl _ | exact Ent.nil _ | exact Take.ent' (by repeat' constructor) | (repeat (first | exact Ent.refl _ | refine Ent.drop ?_))⟩
    refine AllF.cons rfl rfl rfl rfl ?_ ?_
    · first | refine s_add rfl rfl rfl (w_i64 (by omega) (by omega)) ?_ | refine s_addw rfl rfl rfl ?_
      exact obN rfl
    refine AllF.cons rfl rfl rfl rfl ?_ ?_
    · refine s_fa (o2 := 1) rfl rfl rfl ?_
      exact obN rfl
    refine AllF.cons rfl rfl rfl rfl ?_ ?_
    · refine s_ld rfl rfl (by rfl) ?_
      exact obN rfl
    refine AllF.cons rfl rfl rfl rfl ?_ ?_
    · refine s_mv rfl rfl ?_
      exact obN rfl
    refine AllF.cons rfl rfl rfl rfl ?_ ?_
    · refine s_callf rfl rfl (by repeat' constructor) (Around_spec _ _ (by omega) (by omega) (by omega)) ?_
      rintro _ _ ⟨rfl, rfl⟩
      simp only [napp]
      exact WpL.nil ⟨rfl, rfl, rfl, by first | exact Ent.refl _ | exact Ent.nil _ | exact Take.ent' (by repeat' constructor) | (repeat (first | exact Ent.refl _ | refine Ent.drop ?_))⟩
    refine AllF.cons rfl rfl rfl rfl ?_ ?_
    · first | refine s_add rfl rfl rfl (w_i64 (by omega) (by omega)) ?_ | refine s_addw rfl rfl rfl ?_
      exact obN rfl
    refine AllF.cons rfl rfl rfl rfl ?_ ?_
    · refine s_fa (o2 := 2) rfl rfl rfl ?_
      exact obN rfl
    refine AllF.cons rfl rfl rfl rfl ?_ ?_
    · refine s_ld rfl rfl (by rfl) ?_
      exact obN rfl
    refine AllF.cons rfl rfl rfl rfl ?_ ?_
    · refine s_mv rfl rfl ?_
      exact obN rfl
    refine AllF.cons rfl rfl rfl rfl ?_ ?_
    · refine s_callf rfl rfl (by repeat' constructor) (Around_spec _ _ (by omega) (by omega) (by omega)) ?_
      rintro _ _ ⟨rfl, rfl⟩
      simp only [napp]
      exact WpL.nil ⟨rfl, rfl, rfl, by first | exact Ent.refl _ | exact Ent.nil _ | exact Take.ent' (by repeat' constructor) | (repeat (first | exact Ent.refl _ | refine Ent.drop ?_))⟩
    refine AllF.cons rfl rfl rfl rfl ?_ ?_
    · first | refine s_add rfl rfl rfl (w_i64 (by omega) (by omega)) ?_ | refine s_addw rfl rfl rfl ?_
      exact obN rfl
    refine AllF.cons rfl rfl rfl rfl ?_ ?_
    · refine s_bd rfl rfl ?_
      exact obN rfl
    exact AllF.nil
  · intro g3
    refine s_sta rfl rfl rfl (by rfl) rfl ?_
    refine WpL.nil ⟨rfl, rfl, ?_⟩
    apply GoR.nil [] ⟨_, .nil⟩ rfl rfl
    · exact AllF.nil
    · refine Wp.seq ?_
      refine Wp.seq ?_
      refine Wp.region ?_
      refine s_fa (o2 := 0) rfl rfl rfl ?_
      refine s_ld rfl rfl (by rfl) ?_
      refine s_callf rfl rfl (by repeat' constructor) (rbits_spec _) ?_
      rintro _ _ ⟨rfl, rfl⟩
      simp only [napp]
      refine s_notD rfl rfl ?_
      refine WpL.nil ?_
      refine Wp.condD rfl (fun h0 => ?_) (fun h0 => ?_)
      · refine Wp.region ?_
        refine s_fa (o2 := 3) rfl rfl rfl ?_
        refine s_ld rfl rfl (by rfl) ?_
        refine s_callf rfl rfl (by repeat' constructor) (Around_spec _ _ (by omega) (by omega) (by omega)) ?_
        rintro _ _ ⟨rfl, rfl⟩
        simp only [napp]
        first | refine s_add rfl rfl rfl (w_i64 (by omega) (by omega)) ?_ | refine s_addw rfl rfl rfl ?_
        refine s_fa (o2 := 3) rfl rfl rfl ?_
        refine s_st rfl rfl rfl ?_
        refine WpL.nil ?_
        refine Wp.seq ?_
        refine Wp.region ?_
        refine s_lda (vs := [_, _, _, _]) rfl rfl rfl (by rfl) ?_
        refine s_sta rfl rfl rfl (by rfl) rfl ?_
        refine WpL.nil ?_
        refine Wp.ret ?_
        apply RetQ.mk
        · exact (RetQ.cell rfl rfl (by rfl))
        · exact ⟨by rw [gdM, if_neg (show ¬ (gdK K = 1 ∨ gdK K = 4) from h0)]; rfl, rfl⟩
        · first | exact Ent.refl _ | exact Ent.nil _ | exact Take.ent' (by repeat' constructor) | (repeat (first | exact Ent.refl _ | refine Ent.drop ?_))
      · refine Wp.skip ?_
        refine Wp.seq ?_
        refine Wp.region ?_
        refine s_lda (vs := [_, _, _, _]) rfl rfl rfl (by rfl) ?_
        refine s_sta rfl rfl rfl (by rfl) rfl ?_
        refine WpL.nil ?_
        refine Wp.ret ?_
        apply RetQ.mk
        · exact (RetQ.cell rfl rfl (by rfl))
        · exact ⟨by rw [gdM, if_pos (show gdK K = 1 ∨ gdK K = 4 from Classical.not_not.1 h0)]; rfl, rfl⟩
        · first | exact Ent.refl _ | exact Ent.nil _ | exact Take.ent' (by repeat' constructor) | (repeat (first | exact Ent.refl _ | refine Ent.drop ?_))



theorem readL_len {K W H M : Int} : ∀ (bs : List Int) (i : Int) (s : RS) (acc : List Int) (k : Nat), RInv (chK K) k acc.length s → (readL K W H M bs i s acc).1.length ≤ k + bs.length + 1
  | [], i, s, acc, k, h => by
    have := endR_out (W := W) (H := H) h
    unfold readL
    split
    · simp
    · simp only [List.length_append]; simp; omega
  | c :: bs, i, s, acc, k, h => by
    have h1 := putR_inv (M := M) (W := W) (H := H) (c := c) h
    have h2 := h1.2.1
    have ih := readL_len (K := K) (W := W) (H := H) (M := M) bs (i + 1) (putR K W H M s c).1 (acc ++ (putR K W H M s c).2) (k + 1) (by rw [List.length_append]; exact h1)
    unfold readL
    split
    · simp only [List.length_append, List.length_cons]; omega
    · split
      · simp
      · simp only [List.length_cons]; omega
theorem readS_len {K W H M : Int} {bs : List Int} : (readS K W H M bs).1.length ≤ bs.length + 1 := by
  unfold readS
  split
  · have := readL_len (K := K) (W := W) (H := H) (M := M) bs 0 s0R [] 0 ⟨by have := chK_pos K; simp [s0R]; omega, by simp [s0R], by simp [s0R], by simp [s0R]⟩
    omega
  · simp

theorem lives_read : readS 1 3 1 1 (bsOf ⟨#[49, 32, 48, 49, 120]⟩) = ([281474976710657, 281474976710656, 281474976710657], 4, 0) := by decide +kernel



theorem sel42 {K W H M K2 W2 H2 M2 : Int} {k : Nat} (h : k < 2) : (([.int .i64 K, .int .i64 W, .int .i64 H, .int .i64 M, .int .i64 K2, .int .i64 W2, .int .i64 H2, .int .i64 M2] : List Value).drop (0 + k * 4)).take 4 = [.int .i64 (if k = 0 then K else K2), .int .i64 (if k = 0 then W else W2), .int .i64 (if k = 0 then H else H2), .int .i64 (if k = 0 then M else M2)] := by
  have : k = 0 ∨ k = 1 := by omega
  rcases this with rfl | rfl <;> rfl


end Go.Proofs.Ytpoahaadnbdgcaa
