/- Walks and plain laws, a part of the proof of PnmOpen: every input that the law's guards let in, no condition beside. -/
import Derived.Test.YtggamdlpiejbiaaGreatM21
namespace Go.Proofs.YtggamdlpiejbiaaGreat
open Go.RowKit Go.Shelf


theorem raw_size (W H w : Nat) (K : Int) (h : ¬ K = 4) (hK : 4 ≤ K ∧ K ≤ 6) : strd K W w * H = W * H * (if K = 6 then 3 else 1) * w := by
  unfold strd chK
  rw [if_neg h]
  obtain rfl | rfl : K = 5 ∨ K = 6 := by omega
  · rw [if_neg (by decide), if_neg (by decide)]; simp only [show (1 : Int).toNat = 1 from rfl]; ac_rfl
  · rw [if_pos (by decide), if_pos rfl]; simp only [show (3 : Int).toNat = 3 from rfl]; ac_rfl
theorem rwide_spec (K W H M : Int) : Fn Tryz.prog 122 #[.agg #[.int .i64 K, .int .i64 W, .int .i64 H, .int .i64 M]] [] (fun v l => v = .int .i64 ((wideM M : Nat) : Int) ∧ l = []) := by
  refine Fn.intro (vs := [.agg #[.int .i64 K, .int .i64 W, .int .i64 H, .int .i64 M]]) Tryz.func122 rfl Tryz.ntmps122 rfl ?_
  refine Wp.seq ?_
  refine Wp.region ?_
  refine s_box rfl rfl rfl ?_
  intro g1
  refine s_as rfl rfl ?_
  refine WpL.nil ?_
  refine Wp.seq ?_
  refine Wp.seq ?_
  refine Wp.region ?_
  refine s_fa (o2 := 3) rfl rfl rfl ?_
  refine s_ld rfl rfl (by rfl) ?_
  refine s_gt rfl rfl rfl ?_
  refine WpL.nil ?_
  refine Wp.condD rfl (fun h0 => ?_) (fun h0 => ?_)
  · refine Wp.seq ?_
    refine Wp.region ?_
    refine s_as rfl rfl ?_
    refine WpL.nil ?_
    refine Wp.ret ?_
    apply RetQ.mk
    · exact (Res.one rfl rfl)
    · exact ⟨by rw [show wideM M = 2 from if_pos h0]; rfl, rfl⟩
    · first | exact Ent.refl _ | exact Ent.nil _ | exact Take.ent' (by repeat' constructor) | (repeat (first | exact Ent.refl _ | refine Ent.drop ?_))
  · refine Wp.skip ?_
    refine Wp.seq ?_
    refine Wp.region ?_
    refine s_as rfl rfl ?_
    refine WpL.nil ?_
    refine Wp.ret ?_
    apply RetQ.mk
    · exact (Res.one rfl rfl)
    · exact ⟨by rw [show wideM M = 1 from if_neg h0]; rfl, rfl⟩
    · first | exact Ent.refl _ | exact Ent.nil _ | exact Take.ent' (by repeat' constructor) | (repeat (first | exact Ent.refl _ | refine Ent.drop ?_))

theorem rSize_spec (K : Int) (W H : Nat) (M : Int) (hR : RawH K (W : Int) (H : Int) M) : Fn Tryz.prog 82 #[.agg #[.int .i64 K, .int .i64 (W : Int), .int .i64 (H : Int), .int .i64 M]] [] (fun v l => v = .int .i64 ((strd K W (wideM M) * H : Nat) : Int) ∧ l = []) := by
  have hb := hR.bd
  have hch := chK_13 K
  have hw := wideM_or M
  have hsb := strd_bd (K := K) (W := W) hw (by omega) (by omega)
  have hWH : W * H ≤ 4096 * 65536 := Nat.mul_le_mul (by omega) (by omega)
  have hrs := fun h4 => raw_size W H (wideM M) K h4 hb.1
  refine Fn.intro (vs := [.agg #[.int .i64 K, .int .i64 (W : Int), .int .i64 (H : Int), .int .i64 M]]) Tryz.func82 rfl Tryz.ntmps82 rfl ?_
  refine Wp.seq ?_
  refine Wp.region ?_
  refine s_box rfl rfl rfl ?_
  intro g1
  refine s_as rfl rfl ?_
  refine WpL.nil ?_
  refine Wp.seq ?_
  refine Wp.seq ?_
  refine Wp.region ?_
  refine s_fa (o2 := 0) rfl rfl rfl ?_
  refine s_ld rfl rfl (by rfl) ?_
  refine s_lt rfl rfl rfl ?_
  refine WpL.nil ?_
  refine Wp.condDF rfl (by omega) ?_
  refine Wp.skip ?_
  refine Wp.seq ?_
  refine Wp.seq ?_
  refine Wp.region ?_
  refine s_fa (o2 := 0) rfl rfl rfl ?_
  refine s_ld rfl rfl (by rfl) ?_
  refine s_eq rfl rfl rfl ?_
  refine WpL.nil ?_
  refine Wp.condD rfl (fun h1 => ?_) (fun h1 => ?_)
  · refine Wp.seq ?_
    refine Wp.region ?_
    refine s_fa (o2 := 1) rfl rfl rfl ?_
    refine s_ld rfl rfl (by rfl) ?_
    refine s_quo rfl rfl rfl (by omega) (by omega) (w_i64 (by omega) (by omega)) ?_
    refine s_as rfl rfl ?_
    refine WpL.nil ?_
    refine Wp.seq ?_
    refine Wp.seq ?_
    refine Wp.region ?_
    refine s_fa (o2 := 1) rfl rfl rfl ?_
    refine s_ld rfl rfl (by rfl) ?_
    refine s_rem rfl rfl rfl (by omega) (by omega) ?_
    refine s_gt rfl rfl rfl ?_
    refine WpL.nil ?_
    refine Wp.condD rfl (fun h2 => ?_) (fun h2 => ?_)
    · refine Wp.region ?_
      refine s_mv rfl rfl ?_
      refine s_add rfl rfl rfl (w_i64 (by omega) (by omega)) ?_
      refine s_as rfl rfl ?_
      refine WpL.nil ?_
      refine Wp.seq ?_
      refine Wp.region ?_
      refine s_mv rfl rfl ?_
      refine s_fa (o2 := 2) rfl rfl rfl ?_
      refine s_ld rfl rfl (by rfl) ?_
      have hq : ((W : Int) / 8 + (if (W : Int) % 8 > 0 then 1 else 0)) = (((W + 7) / 8 : Nat) : Int) := by split <;> omega
      have h8 : (W + 7) / 8 * H ≤ 4096 * 65536 := Nat.mul_le_mul (by omega) (by omega)
      have hst4 : strd K W (wideM M) = (W + 7) / 8 := if_pos h1
      first | rw [if_pos h2] at hq | rw [if_neg h2] at hq
      try simp only [Int.add_zero] at hq
      rw [hq]
      have h9 : (((W + 7) / 8 : Nat) : Int) * (H : Int) = (((W + 7) / 8 * H : Nat) : Int) := by push_cast; rfl
      refine s_mul rfl rfl rfl (w_i64 (by rw [h9]; omega) (by rw [h9]; omega)) ?_
      rw [h9, ← hst4]
      refine s_as rfl rfl ?_
      refine WpL.nil ?_
      refine Wp.ret ?_
      apply RetQ.mk
      · exact (Res.one rfl rfl)
      · exact ⟨rfl, rfl⟩
      · first | exact Ent.refl _ | exact Ent.nil _ | exact Take.ent' (by repeat' constructor) | (repeat (first | exact Ent.refl _ | refine Ent.drop ?_))
    · refine Wp.skip ?_
      refine Wp.seq ?_
      refine Wp.region ?_
      refine s_mv rfl rfl ?_
      refine s_fa (o2 := 2) rfl rfl rfl ?_
      refine s_ld rfl rfl (by rfl) ?_
      have hq : ((W : Int) / 8 + (if (W : Int) % 8 > 0 then 1 else 0)) = (((W + 7) / 8 : Nat) : Int) := by split <;> omega
      have h8 : (W + 7) / 8 * H ≤ 4096 * 65536 := Nat.mul_le_mul (by omega) (by omega)
      have hst4 : strd K W (wideM M) = (W + 7) / 8 := if_pos h1
      first | rw [if_pos h2] at hq | rw [if_neg h2] at hq
      try simp only [Int.add_zero] at hq
      rw [hq]
      have h9 : (((W + 7) / 8 : Nat) : Int) * (H : Int) = (((W + 7) / 8 * H : Nat) : Int) := by push_cast; rfl
      refine s_mul rfl rfl rfl (w_i64 (by rw [h9]; omega) (by rw [h9]; omega)) ?_
      rw [h9, ← hst4]
      refine s_as rfl rfl ?_
      refine WpL.nil ?_
      refine Wp.ret ?_
      apply RetQ.mk
      · exact (Res.one rfl rfl)
      · exact ⟨rfl, rfl⟩
      · first | exact Ent.refl _ | exact Ent.nil _ | exact Take.ent' (by repeat' constructor) | (repeat (first | exact Ent.refl _ | refine Ent.drop ?_))
  · refine Wp.skip ?_
    refine Wp.seq ?_
    refine Wp.region ?_
    refine s_fa (o2 := 1) rfl rfl rfl ?_
    refine s_ld rfl rfl (by rfl) ?_
    refine s_fa (o2 := 2) rfl rfl rfl ?_
    refine s_ld rfl rfl (by rfl) ?_
    have h9 : (W : Int) * (H : Int) = ((W * H : Nat) : Int) := by push_cast; rfl
    refine s_mul rfl rfl rfl (w_i64 (by rw [h9]; omega) (by rw [h9]; omega)) ?_
    rw [h9]
    refine s_as rfl rfl ?_
    refine WpL.nil ?_
    refine Wp.seq ?_
    refine Wp.seq ?_
    refine Wp.region ?_
    refine s_fa (o2 := 0) rfl rfl rfl ?_
    refine s_ld rfl rfl (by rfl) ?_
    refine s_eq rfl rfl rfl ?_
    refine WpL.nil ?_
    refine Wp.condD rfl (fun h3 => ?_) (fun h3 => ?_)
    · refine Wp.region ?_
      refine s_mv rfl rfl ?_
      refine s_mul rfl rfl rfl (w_i64 (by omega) (by omega)) ?_
      refine s_as rfl rfl ?_
      refine WpL.nil ?_
      refine Wp.seq ?_
      refine Wp.seq ?_
      refine Wp.region ?_
      refine s_fa (o2 := 3) rfl rfl rfl ?_
      refine s_ld rfl rfl (by rfl) ?_
      refine s_gt rfl rfl rfl ?_
      refine WpL.nil ?_
      refine Wp.condD rfl (fun h4 => ?_) (fun h4 => ?_)
      · refine Wp.region ?_
        refine s_mv rfl rfl ?_
        refine s_mul rfl rfl rfl (w_i64 (by omega) (by omega)) ?_
        refine s_as rfl rfl ?_
        refine WpL.nil ?_
        refine Wp.seq ?_
        refine Wp.region ?_
        refine s_mv rfl rfl ?_
        refine s_as rfl rfl ?_
        refine WpL.nil ?_
        refine Wp.ret ?_
        apply RetQ.mk
        · exact (Res.one rfl rfl)
        · have e := hrs h1
          rw [if_pos h3, show wideM M = 2 from if_pos h4] at e
          rw [show wideM M = 2 from if_pos h4]
          rw [e]
          exact ⟨congrArg (Value.int .i64) (by push_cast; generalize (W : Int) * (H : Int) = z; omega), rfl⟩
        · first | exact Ent.refl _ | exact Ent.nil _ | exact Take.ent' (by repeat' constructor) | (repeat (first | exact Ent.refl _ | refine Ent.drop ?_))
      · refine Wp.skip ?_
        refine Wp.seq ?_
        refine Wp.region ?_
        refine s_mv rfl rfl ?_
        refine s_as rfl rfl ?_
        refine WpL.nil ?_
        refine Wp.ret ?_
        apply RetQ.mk
        · exact (Res.one rfl rfl)
        · have e := hrs h1
          rw [if_pos h3, show wideM M = 1 from if_neg h4] at e
          rw [show wideM M = 1 from if_neg h4]
          rw [e]
          exact ⟨congrArg (Value.int .i64) (by push_cast; generalize (W : Int) * (H : Int) = z; omega), rfl⟩
        · first | exact Ent.refl _ | exact Ent.nil _ | exact Take.ent' (by repeat' constructor) | (repeat (first | exact Ent.refl _ | refine Ent.drop ?_))
    · refine Wp.skip ?_
      refine Wp.seq ?_
      refine Wp.seq ?_
      refine Wp.region ?_
      refine s_fa (o2 := 3) rfl rfl rfl ?_
      refine s_ld rfl rfl (by rfl) ?_
      refine s_gt rfl rfl rfl ?_
      refine WpL.nil ?_
      refine Wp.condD rfl (fun h4 => ?_) (fun h4 => ?_)
      · refine Wp.region ?_
        refine s_mv rfl rfl ?_
        refine s_mul rfl rfl rfl (w_i64 (by omega) (by omega)) ?_
        refine s_as rfl rfl ?_
        refine WpL.nil ?_
        refine Wp.seq ?_
        refine Wp.region ?_
        refine s_mv rfl rfl ?_
        refine s_as rfl rfl ?_
        refine WpL.nil ?_
        refine Wp.ret ?_
        apply RetQ.mk
        · exact (Res.one rfl rfl)
        · have e := hrs h1
          rw [if_neg h3, show wideM M = 2 from if_pos h4] at e
          rw [show wideM M = 2 from if_pos h4]
          rw [e]
          exact ⟨congrArg (Value.int .i64) (by push_cast; generalize (W : Int) * (H : Int) = z; omega), rfl⟩
        · first | exact Ent.refl _ | exact Ent.nil _ | exact Take.ent' (by repeat' constructor) | (repeat (first | exact Ent.refl _ | refine Ent.drop ?_))
      · refine Wp.skip ?_
        refine Wp.seq ?_
        refine Wp.region ?_
        refine s_mv rfl rfl ?_
        refine s_as rfl rfl ?_
        refine WpL.nil ?_
        refine Wp.ret ?_
        apply RetQ.mk
        · exact (Res.one rfl rfl)
        · have e := hrs h1
          rw [if_neg h3, show wideM M = 1 from if_neg h4] at e
          rw [show wideM M = 1 from if_neg h4]
          rw [e]
          exact ⟨congrArg (Value.int .i64) (by push_cast; generalize (W : Int) * (H : Int) = z; omega), rfl⟩
        · first | exact Ent.refl _ | exact Ent.nil _ | exact Take.ent' (by repeat' constructor) | (repeat (first | exact Ent.refl _ | refine Ent.drop ?_))

theorem rStride_spec (K : Int) (W H : Nat) (M : Int) (hR : RawH K (W : Int) (H : Int) M) : Fn Tryz.prog 108 #[.agg #[.int .i64 K, .int .i64 (W : Int), .int .i64 (H : Int), .int .i64 M]] [] (fun v l => v = .int .i64 ((strd K W (wideM M) : Nat) : Int) ∧ l = []) := by
  have hb := hR.bd
  have hch := chK_13 K
  have hw := wideM_or M
  have hsb := strd_bd (K := K) (W := W) hw (by omega) (by omega)
  have hSH : strd K W (wideM M) * H ≤ 24576 * 65536 := Nat.mul_le_mul hsb.2 (by omega)
  have hdv : ((strd K W (wideM M) * H : Nat) : Int) / (H : Int) = ((strd K W (wideM M) : Nat) : Int) := by rw [← Int.natCast_ediv, Nat.mul_div_cancel _ (by omega)]
  refine Fn.intro (vs := [.agg #[.int .i64 K, .int .i64 (W : Int), .int .i64 (H : Int), .int .i64 M]]) Tryz.func108 rfl Tryz.ntmps108 rfl ?_
  refine Wp.seq ?_
  refine Wp.region ?_
  refine s_box rfl rfl rfl ?_
  intro g1
  refine s_as rfl rfl ?_
  refine WpL.nil ?_
  refine Wp.seq ?_
  refine Wp.seq ?_
  refine Wp.region ?_
  refine s_fa (o2 := 0) rfl rfl rfl ?_
  refine s_ld rfl rfl (by rfl) ?_
  refine s_lt rfl rfl rfl ?_
  refine WpL.nil ?_
  refine Wp.condDF rfl (by omega) ?_
  refine Wp.skip ?_
  refine Wp.seq ?_
  apply Wp.draw mixed [⟨6, _, []⟩, ⟨7, _, [0]⟩, ⟨8, _, []⟩, ⟨9, _, [2]⟩, ⟨10, _, [1, 3]⟩, ⟨2, _, [4, 1, 0, 2, 3]⟩] rfl
  · refine AllObs.mk ?_ ?_
    · refine s_lda (vs := [_, _, _, _]) rfl rfl rfl (by rfl) ?_
      exact obN rfl
    refine AllObs.mk ?_ ?_
    · refine s_callf rfl rfl (by repeat' constructor) (rSize_spec K W H M hR) ?_
      rintro _ _ ⟨rfl, rfl⟩
      simp only [napp]
      exact WpL.nil ⟨rfl, rfl, rfl, by first | exact Ent.refl _ | exact Ent.nil _ | exact Take.ent' (by repeat' constructor) | (repeat (first | exact Ent.refl _ | refine Ent.drop ?_))⟩
    refine AllObs.mk ?_ ?_
    · refine s_fa (o2 := 2) rfl rfl rfl ?_
      exact obN rfl
    refine AllObs.mk ?_ ?_
    · refine s_ld rfl rfl (by rfl) ?_
      exact obN rfl
    refine AllObs.mk ?_ ?_
    · refine s_quo rfl rfl rfl (by omega) (by omega) (w_i64 (by rw [hdv]; omega) (by rw [hdv]; omega)) ?_
      rw [hdv]
      exact obN rfl
    refine AllObs.mk ?_ ?_
    · refine s_as rfl rfl ?_
      exact obN rfl
    exact AllObs.nil
  · refine Wp.ret ?_
    apply RetQ.mk
    · exact (Res.one rfl rfl)
    · exact ⟨rfl, rfl⟩
    · first | exact Ent.refl _ | exact Ent.nil _ | exact Take.ent' (by repeat' constructor) | (repeat (first | exact Ent.refl _ | refine Ent.drop ?_))

end Go.Proofs.YtggamdlpiejbiaaGreat
namespace Go.Proofs.YtggamdlpiejbiaaGreat
open Go.RowKit Go.Shelf

theorem rSamples_1 (A0 : HP) (a0 : Option Addr) (c0 : Nat) (bs : List Int) (hA : RdsL [A0] a0 (u8s bs)) (hbs : ∀ x ∈ bs, 0 ≤ x ∧ x ≤ 255) (hc0 : bs.length ≤ c0) (hbl : bs.length ≤ 100000000000) (K W H M : Int) (hwm : wideM M = 1) : Fn Tryz.prog 159 #[.slice a0 bs.length c0, .agg #[.int .i64 K, .int .i64 W, .int .i64 H, .int .i64 M]] [A0] (fun v l => ∃ a c, v = .slice a (smps (wideM M) bs).length c ∧ l = [own 3 1 a c (smps (wideM M) bs).length (ints (smps (wideM M) bs)), A0]) := by
  refine Fn.intro (vs := [.slice a0 bs.length c0, .agg #[.int .i64 K, .int .i64 W, .int .i64 H, .int .i64 M]]) Tryz.func159 rfl Tryz.ntmps159 rfl ?_
  refine Wp.seq ?_
  refine Wp.region ?_
  refine s_box rfl rfl rfl ?_
  intro g1
  refine s_as rfl rfl ?_
  refine WpL.nil ?_
  refine Wp.seq ?_
  refine Wp.region ?_
  refine s_as rfl rfl ?_
  refine WpL.nil ?_
  refine Wp.seq ?_
  refine Wp.region ?_
  refine s_lda (vs := [_, _, _, _]) rfl rfl rfl (by rfl) ?_
  refine s_callf rfl rfl (by repeat' constructor) (rwide_spec _ _ _ _) ?_
  rintro _ _ ⟨rfl, rfl⟩
  simp only [napp]
  have hcast : ((wideM M : Nat) : Int) = 1 := by rw [hwm]; rfl
  rw [hcast]
  refine s_as rfl rfl ?_
  refine WpL.nil ?_
  refine Wp.seq ?_
  refine Wp.seq ?_
  refine Wp.region ?_
  refine s_as rfl rfl ?_
  refine WpL.nil ?_
  refine Wp.block ?_
  refine Wp.loopD (σ := SmX) (fun x => x.k ≤ bs.length / 1) [5, 7, 8, 11, 12, 13, 14, 15, 16, 17, 18, 19, 20, 21, 22, 23, 24, 25, 26, 27, 28, 29, 30, 31, 32, 33, 34, 35, 36, 37, 38, 39] (fun x => [(7, .int .i64 ((x.k : Nat) : Int)), (5, .slice x.a x.k x.c)]) (fun x => [own 3 1 x.a x.c x.k (ints ((smps (wideM M) bs).take x.k)), A0]) (fun x => bs.length / 1 - x.k) ⟨0, none, 0⟩ ?_ (by repeat (first | exact FrLe.nil | refine FrLe.cons rfl ?_)) ?_ ?_
  · exact Nat.zero_le _
  · exact (Ent.own_nil (T := 3) (s := 1) (Ent.refl _)).trans (Take.ent' (by repeat' constructor))
  · rintro ⟨j, a, c⟩ hj
    dsimp only at hj ⊢
    refine Wp.seq ?_
    refine Wp.seq ?_
    refine Wp.region ?_
    refine s_mv rfl rfl ?_
    refine s_mv rfl rfl ?_
    first | refine s_add rfl rfl rfl (w_i64 (by omega) (by omega)) ?_ | refine s_addw rfl rfl rfl ?_
    refine s_mv rfl rfl ?_
    refine s_lenl rfl rfl ?_
    refine s_le rfl rfl rfl ?_
    refine WpL.nil ?_
    refine Wp.condD rfl (fun h1 => ?_) (fun h1 => ?_)
    · have hjl : j < bs.length / 1 := by omega
      have hlt : j < bs.length := by omega
      have hb1 := hbs _ (List.getElem_mem hlt)
      have hst := smps_take (wideM M) bs (k := j) (by rw [hwm]; exact hjl)
      refine Wp.skip ?_
      refine Wp.seq ?_
      refine Wp.block ?_
      refine Wp.seq ?_
      refine Wp.region ?_
      refine s_mv rfl rfl ?_
      refine s_mv rfl rfl ?_
      refine s_ixa (j) rfl rfl rfl hA (by first | exact Take.ent' (by repeat' constructor) | (repeat (first | exact Ent.refl _ | refine Ent.drop ?_))) rfl (by omega) (by rw [u8s_len]; exact hlt) ?_
      refine s_ldx rfl rfl hA (by first | exact Take.ent' (by repeat' constructor) | (repeat (first | exact Ent.refl _ | refine Ent.drop ?_))) (u8s_at bs hlt) ?_
      first | refine s_cvi rfl Tryz.underlying5 rfl (w_i64 (by omega) (by omega)) ?_ | refine s_cviw rfl Tryz.underlying5 rfl ?_
      refine s_as rfl rfl ?_
      refine WpL.nil ?_
      refine Wp.seq ?_
      refine Wp.seq ?_
      refine Wp.region ?_
      refine s_mv rfl rfl ?_
      refine s_eq rfl rfl rfl ?_
      refine WpL.nil ?_
      refine Wp.condDF rfl (by decide) ?_
      refine Wp.skip ?_
      refine Wp.region ?_
      refine s_mv rfl rfl ?_
      refine s_mv rfl rfl ?_
      refine s_bs1 rfl rfl rfl rfl ?_
      intro g2
      refine s_app1 rfl rfl rfl (by repeat' constructor) (by rfl) (by rfl) (by rfl) (by rfl) (by omega) (by omega) ?_
      intro a39 c39
      rw [ints_snoc, show bs[j]'hlt = smpAt (wideM M) bs j from by unfold smpAt; rw [hwm]; simp [hlt], hst]
      refine s_as rfl rfl ?_
      refine WpL.nil ?_
      refine Wp.region ?_
      refine s_mv rfl rfl ?_
      refine s_mv rfl rfl ?_
      first | refine s_add rfl rfl rfl (w_i64 (by omega) (by omega)) ?_ | refine s_addw rfl rfl rfl ?_
      refine s_as rfl rfl ?_
      refine WpL.nil ?_
      refine loopD.next (⟨j + 1, a39, c39⟩ : SmX) ?_ ?_ (by first | ((repeat (first | exact Top.refl | refine Top.push rfl ?_ | refine Top.drop rfl ?_)); done) | exact Top.le (by repeat (first | exact FrLe.nil | refine FrLe.cons rfl ?_))) (by repeat (first | exact FrLe.nil | refine FrLe.cons rfl ?_)) ?_
      · simp only; omega
      · simp only; omega
      · first | exact Ent.refl _ | exact Ent.nil _ | exact Take.ent' (by repeat' constructor) | (repeat (first | exact Ent.refl _ | refine Ent.drop ?_))
    · refine Wp.exit ?_
      refine Wp.seq ?_
      refine Wp.region ?_
      refine s_mv rfl rfl ?_
      refine s_as rfl rfl ?_
      refine WpL.nil ?_
      refine Wp.ret ?_
      have hj2 : j = (smps (wideM M) bs).length := by rw [smps_len, hwm]; omega
      subst hj2
      rw [List.take_length]
      apply RetQ.mk
      · exact (Res.one rfl rfl)
      · exact ⟨a, c, rfl, rfl⟩
      · first | exact Ent.refl _ | exact Ent.nil _ | exact Take.ent' (by repeat' constructor) | (repeat (first | exact Ent.refl _ | refine Ent.drop ?_))

theorem rSamples_2 (A0 : HP) (a0 : Option Addr) (c0 : Nat) (bs : List Int) (hA : RdsL [A0] a0 (u8s bs)) (hbs : ∀ x ∈ bs, 0 ≤ x ∧ x ≤ 255) (hc0 : bs.length ≤ c0) (hbl : bs.length ≤ 100000000000) (K W H M : Int) (hwm : wideM M = 2) : Fn Tryz.prog 159 #[.slice a0 bs.length c0, .agg #[.int .i64 K, .int .i64 W, .int .i64 H, .int .i64 M]] [A0] (fun v l => ∃ a c, v = .slice a (smps (wideM M) bs).length c ∧ l = [own 3 1 a c (smps (wideM M) bs).length (ints (smps (wideM M) bs)), A0]) := by
  refine Fn.intro (vs := [.slice a0 bs.length c0, .agg #[.int .i64 K, .int .i64 W, .int .i64 H, .int .i64 M]]) Tryz.func159 rfl Tryz.ntmps159 rfl ?_
  refine Wp.seq ?_
  refine Wp.region ?_
  refine s_box rfl rfl rfl ?_
  intro g1
  refine s_as rfl rfl ?_
  refine WpL.nil ?_
  refine Wp.seq ?_
  refine Wp.region ?_
  refine s_as rfl rfl ?_
  refine WpL.nil ?_
  refine Wp.seq ?_
  refine Wp.region ?_
  refine s_lda (vs := [_, _, _, _]) rfl rfl rfl (by rfl) ?_
  refine s_callf rfl rfl (by repeat' constructor) (rwide_spec _ _ _ _) ?_
  rintro _ _ ⟨rfl, rfl⟩
  simp only [napp]
  have hcast : ((wideM M : Nat) : Int) = 2 := by rw [hwm]; rfl
  rw [hcast]
  refine s_as rfl rfl ?_
  refine WpL.nil ?_
  refine Wp.seq ?_
  refine Wp.seq ?_
  refine Wp.region ?_
  refine s_as rfl rfl ?_
  refine WpL.nil ?_
  refine Wp.block ?_
  refine Wp.loopD (σ := SmX) (fun x => x.k ≤ bs.length / 2) [5, 7, 8, 11, 12, 13, 14, 15, 16, 17, 18, 19, 20, 21, 22, 23, 24, 25, 26, 27, 28, 29, 30, 31, 32, 33, 34, 35, 36, 37, 38, 39] (fun x => [(7, .int .i64 ((2 * x.k : Nat) : Int)), (5, .slice x.a x.k x.c)]) (fun x => [own 3 1 x.a x.c x.k (ints ((smps (wideM M) bs).take x.k)), A0]) (fun x => bs.length / 2 - x.k) ⟨0, none, 0⟩ ?_ (by repeat (first | exact FrLe.nil | refine FrLe.cons rfl ?_)) ?_ ?_
  · exact Nat.zero_le _
  · exact (Ent.own_nil (T := 3) (s := 1) (Ent.refl _)).trans (Take.ent' (by repeat' constructor))
  · rintro ⟨j, a, c⟩ hj
    dsimp only at hj ⊢
    refine Wp.seq ?_
    refine Wp.seq ?_
    refine Wp.region ?_
    refine s_mv rfl rfl ?_
    refine s_mv rfl rfl ?_
    first | refine s_add rfl rfl rfl (w_i64 (by omega) (by omega)) ?_ | refine s_addw rfl rfl rfl ?_
    refine s_mv rfl rfl ?_
    refine s_lenl rfl rfl ?_
    refine s_le rfl rfl rfl ?_
    refine WpL.nil ?_
    refine Wp.condD rfl (fun h1 => ?_) (fun h1 => ?_)
    · have hjl : j < bs.length / 2 := by omega
      have hlt : 2 * j < bs.length := by omega
      have hb1 := hbs _ (List.getElem_mem hlt)
      have hst := smps_take (wideM M) bs (k := j) (by rw [hwm]; exact hjl)
      have hlt2 : 2 * j + 1 < bs.length := by omega
      have hb2 := hbs _ (List.getElem_mem hlt2)
      refine Wp.skip ?_
      refine Wp.seq ?_
      refine Wp.block ?_
      refine Wp.seq ?_
      refine Wp.region ?_
      refine s_mv rfl rfl ?_
      refine s_mv rfl rfl ?_
      refine s_ixa (2 * j) rfl rfl rfl hA (by first | exact Take.ent' (by repeat' constructor) | (repeat (first | exact Ent.refl _ | refine Ent.drop ?_))) rfl (by omega) (by rw [u8s_len]; exact hlt) ?_
      refine s_ldx rfl rfl hA (by first | exact Take.ent' (by repeat' constructor) | (repeat (first | exact Ent.refl _ | refine Ent.drop ?_))) (u8s_at bs hlt) ?_
      first | refine s_cvi rfl Tryz.underlying5 rfl (w_i64 (by omega) (by omega)) ?_ | refine s_cviw rfl Tryz.underlying5 rfl ?_
      refine s_as rfl rfl ?_
      refine WpL.nil ?_
      refine Wp.seq ?_
      refine Wp.seq ?_
      refine Wp.region ?_
      refine s_mv rfl rfl ?_
      refine s_eq rfl rfl rfl ?_
      refine WpL.nil ?_
      refine Wp.condDT rfl (by decide) ?_
      refine Wp.region ?_
      refine s_mv rfl rfl ?_
      first | refine s_mul rfl rfl rfl (w_i64 (by omega) (by omega)) ?_ | refine s_mulw rfl rfl rfl ?_
      refine s_mv rfl rfl ?_
      refine s_mv rfl rfl ?_
      first | refine s_add rfl rfl rfl (w_i64 (by omega) (by omega)) ?_ | refine s_addw rfl rfl rfl ?_
      refine s_ixa (2 * j + 1) rfl rfl rfl hA (by first | exact Take.ent' (by repeat' constructor) | (repeat (first | exact Ent.refl _ | refine Ent.drop ?_))) rfl (by omega) (by rw [u8s_len]; omega) ?_
      refine s_ldx rfl rfl hA (by first | exact Take.ent' (by repeat' constructor) | (repeat (first | exact Ent.refl _ | refine Ent.drop ?_))) (u8s_at bs (by omega)) ?_
      first | refine s_cvi rfl Tryz.underlying5 rfl (w_i64 (by omega) (by omega)) ?_ | refine s_cviw rfl Tryz.underlying5 rfl ?_
      first | refine s_add rfl rfl rfl (w_i64 (by omega) (by omega)) ?_ | refine s_addw rfl rfl rfl ?_
      refine s_as rfl rfl ?_
      refine WpL.nil ?_
      refine Wp.region ?_
      refine s_mv rfl rfl ?_
      refine s_mv rfl rfl ?_
      refine s_bs1 rfl rfl rfl rfl ?_
      intro g2
      refine s_app1 rfl rfl rfl (by repeat' constructor) (by rfl) (by rfl) (by rfl) (by rfl) (by omega) (by omega) ?_
      intro a39 c39
      rw [ints_snoc, show bs[2 * j]'hlt * 256 + bs[2 * j + 1]'hlt2 = smpAt (wideM M) bs j from by unfold smpAt; rw [hwm]; simp [hlt, hlt2], hst]
      refine s_as rfl rfl ?_
      refine WpL.nil ?_
      refine Wp.region ?_
      refine s_mv rfl rfl ?_
      refine s_mv rfl rfl ?_
      first | refine s_add rfl rfl rfl (w_i64 (by omega) (by omega)) ?_ | refine s_addw rfl rfl rfl ?_
      refine s_as rfl rfl ?_
      refine WpL.nil ?_
      refine loopD.next (⟨j + 1, a39, c39⟩ : SmX) ?_ ?_ (by first | ((repeat (first | exact Top.refl | refine Top.push rfl ?_ | refine Top.drop rfl ?_)); done) | exact Top.le (by repeat (first | exact FrLe.nil | refine FrLe.cons rfl ?_))) (by repeat (first | exact FrLe.nil | refine FrLe.cons rfl ?_)) ?_
      · simp only; omega
      · simp only; omega
      · first | exact Ent.refl _ | exact Ent.nil _ | exact Take.ent' (by repeat' constructor) | (repeat (first | exact Ent.refl _ | refine Ent.drop ?_))
    · refine Wp.exit ?_
      refine Wp.seq ?_
      refine Wp.region ?_
      refine s_mv rfl rfl ?_
      refine s_as rfl rfl ?_
      refine WpL.nil ?_
      refine Wp.ret ?_
      have hj2 : j = (smps (wideM M) bs).length := by rw [smps_len, hwm]; omega
      subst hj2
      rw [List.take_length]
      apply RetQ.mk
      · exact (Res.one rfl rfl)
      · exact ⟨a, c, rfl, rfl⟩
      · first | exact Ent.refl _ | exact Ent.nil _ | exact Take.ent' (by repeat' constructor) | (repeat (first | exact Ent.refl _ | refine Ent.drop ?_))


theorem rSamples_spec (A0 : HP) (a0 : Option Addr) (c0 : Nat) (bs : List Int) (hA : RdsL [A0] a0 (u8s bs)) (hbs : ∀ x ∈ bs, 0 ≤ x ∧ x ≤ 255) (hc0 : bs.length ≤ c0) (hbl : bs.length ≤ 100000000000) (K W H M : Int) : Fn Tryz.prog 159 #[.slice a0 bs.length c0, .agg #[.int .i64 K, .int .i64 W, .int .i64 H, .int .i64 M]] [A0] (fun v l => ∃ a c, v = .slice a (smps (wideM M) bs).length c ∧ l = [own 3 1 a c (smps (wideM M) bs).length (ints (smps (wideM M) bs)), A0]) := by
  rcases wideM_or M with h | h
  · exact rSamples_1 A0 a0 c0 bs hA hbs hc0 hbl K W H M h
  · exact rSamples_2 A0 a0 c0 bs hA hbs hc0 hbl K W H M h

end Go.Proofs.YtggamdlpiejbiaaGreat
namespace Go.Proofs.YtggamdlpiejbiaaGreat
open Go.RowKit Go.Shelf


theorem ediv_pow_succ (b : Int) (m : Nat) : b / 2 ^ m / 2 = b / 2 ^ (m + 1) := by
  rw [Int.ediv_ediv_of_nonneg (by exact_mod_cast Nat.zero_le (2 ^ m)), Int.pow_succ]
structure BtX where
  (k : Nat) (n : Int)
theorem ubits_take (bs : List Int) {W k : Nat} (h : k < W) : (ubits bs W).take k ++ [bitAt bs k] = (ubits bs W).take (k + 1) := by
  rw [List.take_succ_eq_append_getElem (by simp [ubits]; exact h)]
  simp [ubits]
def badI (w M : Int) : List Int → Int → Int
  | [], _ => 0
  | x :: xs, i => if x > M then w * (i + 1) else badI w M xs (i + 1)
/-- The number of the byte with which a raw raster is wrong. -/
def badR (K : Int) (W H : Nat) (M : Int) (bs : List Int) : Int := if K = 4 then 0 else badI ((wideM M : Nat) : Int) M (smps (wideM M) (bs.take (strd K W (wideM M) * H))) 0

theorem rBytes_spec (W : Nat) (hW : 1 ≤ W ∧ W ≤ 4096) : Fn Tryz.prog 187 #[.int .i64 (W : Int)] [] (fun v l => v = .int .i64 (((W + 7) / 8 : Nat) : Int) ∧ l = []) := by
  refine Fn.intro (vs := [.int .i64 (W : Int)]) Tryz.func187 rfl Tryz.ntmps187 rfl ?_
  refine Wp.seq ?_
  refine Wp.region ?_
  refine s_as rfl rfl ?_
  refine WpL.nil ?_
  refine Wp.seq ?_
  refine Wp.seq ?_
  refine Wp.region ?_
  refine s_mv rfl rfl ?_
  refine s_lt rfl rfl rfl ?_
  refine s_mv rfl rfl ?_
  refine WpL.knowF (dj := 6) rfl (decide_eq_false (by omega)) ?_
  refine WpL.gon rfl rfl ?_
  refine s_mv rfl rfl ?_
  refine WpL.gon rfl rfl ?_
  refine s_gt rfl rfl rfl ?_
  refine s_pickF rfl rfl rfl ?_
  refine WpL.nil ?_
  refine Wp.condDF rfl (by omega) ?_
  refine Wp.skip ?_
  refine Wp.seq ?_
  refine Wp.region ?_
  refine s_mv rfl rfl ?_
  refine s_quo rfl rfl rfl (by omega) (by omega) (w_i64 (by omega) (by omega)) ?_
  refine s_as rfl rfl ?_
  refine WpL.nil ?_
  refine Wp.seq ?_
  refine Wp.seq ?_
  refine Wp.region ?_
  refine s_mv rfl rfl ?_
  refine s_rem rfl rfl rfl (by omega) (by omega) ?_
  refine s_gt rfl rfl rfl ?_
  refine WpL.nil ?_
  refine Wp.condD rfl (fun h1 => ?_) (fun h1 => ?_)
  · refine Wp.region ?_
    refine s_mv rfl rfl ?_
    first | refine s_add rfl rfl rfl (w_i64 (by omega) (by omega)) ?_ | refine s_addw rfl rfl rfl ?_
    refine s_as rfl rfl ?_
    refine WpL.nil ?_
    refine Wp.seq ?_
    refine Wp.region ?_
    refine s_mv rfl rfl ?_
    refine s_as rfl rfl ?_
    refine WpL.nil ?_
    refine Wp.ret ?_
    apply RetQ.mk
    · exact (Res.one rfl rfl)
    · exact ⟨congrArg (Value.int .i64) (by omega), rfl⟩
    · first | exact Ent.refl _ | exact Ent.nil _ | exact Take.ent' (by repeat' constructor) | (repeat (first | exact Ent.refl _ | refine Ent.drop ?_))
  · refine Wp.skip ?_
    refine Wp.seq ?_
    refine Wp.region ?_
    refine s_mv rfl rfl ?_
    refine s_as rfl rfl ?_
    refine WpL.nil ?_
    refine Wp.ret ?_
    apply RetQ.mk
    · exact (Res.one rfl rfl)
    · exact ⟨congrArg (Value.int .i64) (by omega), rfl⟩
    · first | exact Ent.refl _ | exact Ent.nil _ | exact Take.ent' (by repeat' constructor) | (repeat (first | exact Ent.refl _ | refine Ent.drop ?_))

theorem rBit_spec (A0 : HP) (a0 : Option Addr) (c0 : Nat) (bs : List Int) (hA : RdsL [A0] a0 (u8s bs)) (hbs : ∀ x ∈ bs, 0 ≤ x ∧ x ≤ 255) (hc0 : bs.length ≤ c0) (hbl : bs.length ≤ 100000000000) (i : Nat) (hi : i / 8 < bs.length) (hi2 : i ≤ 100000000) : Fn Tryz.prog 188 #[.slice a0 bs.length c0, .int .i64 (i : Int)] [A0] (fun v l => v = .int .i64 (bitAt bs i) ∧ l = [A0]) := by
  have hb := hbs _ (List.getElem_mem hi)
  obtain ⟨b, hbe⟩ : ∃ b, b = bs[i / 8]'hi := ⟨_, rfl⟩
  have hbt : bitAt bs i = b / 2 ^ (7 - i % 8) % 2 := by unfold bitAt; rw [List.getElem?_eq_getElem hi, ← hbe]; rfl
  rw [← hbe] at hb
  have hat : (u8s bs)[i / 8]? = some (.int .u8 b) := by rw [hbe]; exact u8s_at bs hi
  refine Fn.intro (vs := [.slice a0 bs.length c0, .int .i64 (i : Int)]) Tryz.func188 rfl Tryz.ntmps188 rfl ?_
  refine Wp.seq ?_
  refine Wp.region ?_
  refine s_as rfl rfl ?_
  refine WpL.nil ?_
  refine Wp.seq ?_
  refine Wp.seq ?_
  refine Wp.region ?_
  refine s_mv rfl rfl ?_
  refine s_lt rfl rfl rfl ?_
  refine WpL.nil ?_
  refine Wp.condDF rfl (by omega) ?_
  refine Wp.skip ?_
  refine Wp.seq ?_
  refine Wp.seq ?_
  refine Wp.region ?_
  refine s_mv rfl rfl ?_
  refine s_quo rfl rfl rfl (by omega) (by omega) (w_i64 (by omega) (by omega)) ?_
  refine s_mv rfl rfl ?_
  refine s_lenl rfl rfl ?_
  refine s_ge rfl rfl rfl ?_
  refine WpL.nil ?_
  refine Wp.condDF rfl (by omega) ?_
  refine Wp.skip ?_
  refine Wp.seq ?_
  refine Wp.region ?_
  refine s_mv rfl rfl ?_
  refine s_mv rfl rfl ?_
  refine s_quo rfl rfl rfl (by omega) (by omega) (w_i64 (by omega) (by omega)) ?_
  refine s_ixa (i / 8) rfl rfl rfl hA (by first | exact Take.ent' (by repeat' constructor) | (repeat (first | exact Ent.refl _ | refine Ent.drop ?_))) (by omega) (by omega) (by rw [u8s_len]; exact hi) ?_
  refine s_ldx rfl rfl hA (by first | exact Take.ent' (by repeat' constructor) | (repeat (first | exact Ent.refl _ | refine Ent.drop ?_))) (hat) ?_
  first | refine s_cvi rfl Tryz.underlying5 rfl (w_i64 (by omega) (by omega)) ?_ | refine s_cviw rfl Tryz.underlying5 rfl ?_
  refine s_as rfl rfl ?_
  refine WpL.nil ?_
  refine Wp.seq ?_
  refine Wp.seq ?_
  refine Wp.region ?_
  refine s_mv rfl rfl ?_
  refine s_rem rfl rfl rfl (by omega) (by omega) ?_
  rw [show (i : Int) % 8 = ((i % 8 : Nat) : Int) by omega]
  refine s_as rfl rfl ?_
  refine WpL.nil ?_
  refine Wp.block ?_
  refine Wp.loopD (σ := BtX) (fun x => i % 8 ≤ x.k ∧ x.k ≤ 7 ∧ (0 ≤ x.n ∧ x.n ≤ 255) ∧ x.n = b / 2 ^ (x.k - i % 8)) [5, 6, 22, 23, 24, 25, 26, 27] (fun x => [(6, .int .i64 (x.k : Int)), (5, .int .i64 x.n)]) (fun x => [A0]) (fun x => 7 - x.k) ⟨i % 8, b⟩ ?_ (by repeat (first | exact FrLe.nil | refine FrLe.cons rfl ?_)) ?_ ?_
  · exact ⟨Nat.le_refl _, by simp only; omega, hb, by simp⟩
  · first | exact Ent.refl _ | exact Ent.nil _ | exact Take.ent' (by repeat' constructor) | (repeat (first | exact Ent.refl _ | refine Ent.drop ?_))
  · rintro ⟨k, m⟩ ⟨hk1, hk2, hm, hmb⟩
    dsimp only at hk1 hk2 hm hmb ⊢
    refine Wp.seq ?_
    refine Wp.seq ?_
    refine Wp.region ?_
    refine s_mv rfl rfl ?_
    refine s_lt rfl rfl rfl ?_
    refine WpL.nil ?_
    refine Wp.condD rfl (fun h3 => ?_) (fun h3 => ?_)
    · refine Wp.skip ?_
      refine Wp.seq ?_
      refine Wp.block ?_
      refine Wp.region ?_
      refine s_mv rfl rfl ?_
      refine s_quo rfl rfl rfl (by omega) (by omega) (w_i64 (by omega) (by omega)) ?_
      refine s_as rfl rfl ?_
      refine WpL.nil ?_
      refine Wp.region ?_
      refine s_mv rfl rfl ?_
      first | refine s_add rfl rfl rfl (w_i64 (by omega) (by omega)) ?_ | refine s_addw rfl rfl rfl ?_
      refine s_as rfl rfl ?_
      refine WpL.nil ?_
      refine loopD.next (⟨k + 1, m / 2⟩ : BtX) ?_ ?_ (by first | ((repeat (first | exact Top.refl | refine Top.push rfl ?_ | refine Top.drop rfl ?_)); done) | exact Top.le (by repeat (first | exact FrLe.nil | refine FrLe.cons rfl ?_))) (by repeat (first | exact FrLe.nil | refine FrLe.cons rfl ?_)) ?_
      · exact ⟨by simp only; omega, by simp only; omega, by simp only; omega, by simp only; rw [hmb, ediv_pow_succ, show k + 1 - i % 8 = k - i % 8 + 1 by omega]⟩
      · simp only; omega
      · first | exact Ent.refl _ | exact Ent.nil _ | exact Take.ent' (by repeat' constructor) | (repeat (first | exact Ent.refl _ | refine Ent.drop ?_))
    · refine Wp.exit ?_
      refine Wp.seq ?_
      refine Wp.region ?_
      refine s_mv rfl rfl ?_
      refine s_rem rfl rfl rfl (by omega) (by omega) ?_
      refine s_as rfl rfl ?_
      refine WpL.nil ?_
      refine Wp.ret ?_
      apply RetQ.mk
      · exact (Res.one rfl rfl)
      · exact ⟨by rw [hbt, hmb, show k = 7 by omega], rfl⟩
      · first | exact Ent.refl _ | exact Ent.nil _ | exact Take.ent' (by repeat' constructor) | (repeat (first | exact Ent.refl _ | refine Ent.drop ?_))

theorem rUnpackB_spec (A0 : HP) (a0 : Option Addr) (c0 : Nat) (bs : List Int) (hA : RdsL [A0] a0 (u8s bs)) (hbs : ∀ x ∈ bs, 0 ≤ x ∧ x ≤ 255) (hc0 : bs.length ≤ c0) (hbl : bs.length ≤ 100000000000) (W : Nat) (hW : 1 ≤ W ∧ W ≤ 4096) (hn : (W + 7) / 8 ≤ bs.length) : Fn Tryz.prog 160 #[.slice a0 bs.length c0, .int .i64 (W : Int)] [A0] (fun v l => ∃ a c, v = .tuple #[.slice a W c, .int .i64 0] ∧ l = [own 3 1 a c W (ints (ubits bs W)), A0]) := by
  refine Fn.intro (vs := [.slice a0 bs.length c0, .int .i64 (W : Int)]) Tryz.func160 rfl Tryz.ntmps160 rfl ?_
  refine Wp.seq ?_
  refine Wp.region ?_
  refine s_as rfl rfl ?_
  refine s_as rfl rfl ?_
  refine WpL.nil ?_
  refine Wp.seq ?_
  refine Wp.region ?_
  refine s_mv rfl rfl ?_
  refine s_callf rfl rfl (by repeat' constructor) (rBytes_spec W hW) ?_
  rintro _ _ ⟨rfl, rfl⟩
  simp only [napp]
  refine s_as rfl rfl ?_
  refine WpL.nil ?_
  refine Wp.seq ?_
  refine Wp.seq ?_
  refine Wp.region ?_
  refine s_mv rfl rfl ?_
  refine s_eq rfl rfl rfl ?_
  refine WpL.nil ?_
  refine Wp.condDF rfl (by omega) ?_
  refine Wp.skip ?_
  refine Wp.seq ?_
  refine Wp.seq ?_
  refine Wp.region ?_
  refine s_mv rfl rfl ?_
  refine s_lenl rfl rfl ?_
  refine s_mv rfl rfl ?_
  refine s_lt rfl rfl rfl ?_
  refine WpL.nil ?_
  refine Wp.condDF rfl (by omega) ?_
  refine Wp.skip ?_
  refine Wp.seq ?_
  refine Wp.region ?_
  refine s_as rfl rfl ?_
  refine WpL.nil ?_
  refine Wp.seq ?_
  refine Wp.seq ?_
  refine Wp.region ?_
  refine s_as rfl rfl ?_
  refine WpL.nil ?_
  refine Wp.block ?_
  refine Wp.loopD (σ := SmX) (fun x => x.k ≤ W) [7, 8, 17, 18, 19, 20, 21, 22, 23, 24, 25, 26, 27] (fun x => [(8, .int .i64 (x.k : Int)), (7, .slice x.a x.k x.c)]) (fun x => [own 3 1 x.a x.c x.k (ints ((ubits bs W).take x.k)), A0]) (fun x => W - x.k) ⟨0, none, 0⟩ ?_ (by repeat (first | exact FrLe.nil | refine FrLe.cons rfl ?_)) ?_ ?_
  · exact Nat.zero_le _
  · exact (Ent.own_nil (T := 3) (s := 1) (Ent.refl _)).trans (Take.ent' (by repeat' constructor))
  · rintro ⟨j, a, c⟩ hj
    dsimp only at hj ⊢
    refine Wp.seq ?_
    refine Wp.seq ?_
    refine Wp.region ?_
    refine s_mv rfl rfl ?_
    refine s_mv rfl rfl ?_
    refine s_lt rfl rfl rfl ?_
    refine WpL.nil ?_
    refine Wp.condD rfl (fun h3 => ?_) (fun h3 => ?_)
    · have hjW : j < W := by omega
      have hst := ubits_take bs hjW
      refine Wp.skip ?_
      refine Wp.seq ?_
      refine Wp.block ?_
      refine Wp.region ?_
      refine s_mv rfl rfl ?_
      refine s_mv rfl rfl ?_
      refine s_mv rfl rfl ?_
      refine s_callf rfl rfl (by repeat' constructor) (rBit_spec A0 a0 c0 bs hA hbs hc0 hbl j (by omega) (by omega)) ?_
      rintro _ _ ⟨rfl, rfl⟩
      simp only [napp]
      refine s_bs1 rfl rfl rfl rfl ?_
      intro g1
      refine s_app1 rfl rfl rfl (by repeat' constructor) (by rfl) (by rfl) (by rfl) (by rfl) (by omega) (by omega) ?_
      intro a27 c27
      rw [ints_snoc, hst]
      refine s_as rfl rfl ?_
      refine WpL.nil ?_
      refine Wp.region ?_
      refine s_mv rfl rfl ?_
      first | refine s_add rfl rfl rfl (w_i64 (by omega) (by omega)) ?_ | refine s_addw rfl rfl rfl ?_
      refine s_as rfl rfl ?_
      refine WpL.nil ?_
      refine loopD.next (⟨j + 1, a27, c27⟩ : SmX) ?_ ?_ (by first | ((repeat (first | exact Top.refl | refine Top.push rfl ?_ | refine Top.drop rfl ?_)); done) | exact Top.le (by repeat (first | exact FrLe.nil | refine FrLe.cons rfl ?_))) (by repeat (first | exact FrLe.nil | refine FrLe.cons rfl ?_)) ?_
      · simp only; omega
      · simp only; omega
      · first | exact Ent.refl _ | exact Ent.nil _ | exact Take.ent' (by repeat' constructor) | (repeat (first | exact Ent.refl _ | refine Ent.drop ?_))
    · refine Wp.exit ?_
      refine Wp.seq ?_
      refine Wp.region ?_
      refine s_mv rfl rfl ?_
      refine s_as rfl rfl ?_
      refine s_as rfl rfl ?_
      refine WpL.nil ?_
      refine Wp.ret ?_
      obtain rfl : j = W := by omega
      rw [show (ubits bs j).take j = ubits bs j from List.take_of_length_le (by simp [ubits])]
      apply RetQ.mk
      · exact (Res.two rfl rfl rfl)
      · exact ⟨a, c, rfl, rfl⟩
      · first | exact Ent.refl _ | exact Ent.nil _ | exact Take.ent' (by repeat' constructor) | (repeat (first | exact Ent.refl _ | refine Ent.drop ?_))

theorem rBad_spec (A0 : HP) (a0 : Option Addr) (c0 : Nat) (bs : List Int) (hA : RdsL [A0] a0 (u8s bs)) (hbs : ∀ x ∈ bs, 0 ≤ x ∧ x ≤ 255) (hc0 : bs.length ≤ c0) (hbl : bs.length ≤ 100000000000) (K : Int) (W H : Nat) (M : Int) (hR : RawH K (W : Int) (H : Int) M) : Fn Tryz.prog 109 #[.slice a0 bs.length c0, .agg #[.int .i64 K, .int .i64 (W : Int), .int .i64 (H : Int), .int .i64 M]] [A0] (fun v l => v = .int .i64 (badR K W H M bs) ∧ l = [A0]) := by
  have hb := hR.bd
  have hch := chK_13 K
  have hw := wideM_or M
  have hsb := strd_bd (K := K) (W := W) hw (by omega) (by omega)
  have hSH : strd K W (wideM M) * H ≤ 24576 * 65536 := Nat.mul_le_mul hsb.2 (by omega)
  obtain ⟨ls, hls⟩ : ∃ ls, ls = smps (wideM M) (bs.take (strd K W (wideM M) * H)) := ⟨_, rfl⟩
  have hll : ls.length ≤ 24576 * 65536 := by rw [hls, smps_len, List.length_take]; exact Nat.le_trans (Nat.div_le_self _ _) (by omega)
  have htl : min (bs.length : Int) (((strd K W (wideM M) * H) : Nat) : Int) = (((bs.take (strd K W (wideM M) * H)).length : Nat) : Int) := by rw [List.length_take]; omega
  have htb : ∀ x ∈ (bs.take (strd K W (wideM M) * H)), 0 ≤ x ∧ x ≤ 255 := fun x hx => hbs x (List.mem_of_mem_take hx)
  have hAt : RdsL [A0] a0 (u8s (bs.take (strd K W (wideM M) * H))) := by have := hA.take (strd K W (wideM M) * H); rwa [show (u8s bs).take (strd K W (wideM M) * H) = u8s (bs.take (strd K W (wideM M) * H)) from by simp [u8s, List.map_take]] at this
  refine Fn.intro (vs := [.slice a0 bs.length c0, .agg #[.int .i64 K, .int .i64 (W : Int), .int .i64 (H : Int), .int .i64 M]]) Tryz.func109 rfl Tryz.ntmps109 rfl ?_
  refine Wp.seq ?_
  refine Wp.region ?_
  refine s_box rfl rfl rfl ?_
  intro g1
  refine s_as rfl rfl ?_
  refine WpL.nil ?_
  refine Wp.seq ?_
  refine Wp.seq ?_
  refine Wp.region ?_
  refine s_fa (o2 := 0) rfl rfl rfl ?_
  refine s_ld rfl rfl (by rfl) ?_
  refine s_eq rfl rfl rfl ?_
  refine WpL.nil ?_
  refine Wp.condD rfl (fun h0 => ?_) (fun h0 => ?_)
  · refine Wp.seq ?_
    refine Wp.region ?_
    refine s_as rfl rfl ?_
    refine WpL.nil ?_
    refine Wp.ret ?_
    apply RetQ.mk
    · exact (Res.one rfl rfl)
    · exact ⟨by rw [show badR K W H M bs = 0 from if_pos h0], rfl⟩
    · first | exact Ent.refl _ | exact Ent.nil _ | exact Take.ent' (by repeat' constructor) | (repeat (first | exact Ent.refl _ | refine Ent.drop ?_))
  · refine Wp.skip ?_
    refine Wp.seq ?_
    refine Wp.region ?_
    refine s_lda (vs := [_, _, _, _]) rfl rfl rfl (by rfl) ?_
    refine s_callf rfl rfl (by repeat' constructor) (rwide_spec _ _ _ _) ?_
    rintro _ _ ⟨rfl, rfl⟩
    simp only [napp]
    refine s_as rfl rfl ?_
    refine WpL.nil ?_
    refine Wp.seq ?_
    apply Wp.drawGN (fB := []) mixed [(8, false)] (by kernel_rfl)
    apply GoR.segF [⟨0, 13, _, [], false⟩, ⟨1, 14, _, [], false⟩, ⟨2, 15, _, [1], false⟩, ⟨3, 16, _, [], false⟩, ⟨4, 17, _, [3], false⟩, ⟨5, 18, _, [2, 4], false⟩, ⟨6, 19, _, [0, 5], false⟩, ⟨7, 20, _, [], false⟩] [] [0, 1, 2, 3, 4, 5, 6, 7] [6] (.inr rfl) rfl rfl rfl (by kernel_rfl) rfl rfl rfl
    · refine AllF.cons rfl rfl rfl rfl ?_ ?_
      · refine s_mv rfl rfl ?_
        exact obN rfl
      refine AllF.cons rfl rfl rfl rfl ?_ ?_
      · refine s_mv rfl rfl ?_
        exact obN rfl
      refine AllF.cons rfl rfl rfl rfl ?_ ?_
      · refine s_lenl rfl rfl ?_
        exact WpL.nil ⟨rfl, rfl, rfl, by first | exact Ent.refl _ | exact Ent.nil _ | exact Take.ent' (by repeat' constructor) | (repeat (first | exact Ent.refl _ | refine Ent.drop ?_))⟩
      refine AllF.cons rfl rfl rfl rfl ?_ ?_
      · refine s_lda (vs := [_, _, _, _]) rfl rfl rfl (by rfl) ?_
        exact obN rfl
      refine AllF.cons rfl rfl rfl rfl ?_ ?_
      · refine s_callf rfl rfl (by repeat' constructor) (rSize_spec K W H M hR) ?_
        rintro _ _ ⟨rfl, rfl⟩
        simp only [napp]
        exact WpL.nil ⟨rfl, rfl, rfl, by first | exact Ent.refl _ | exact Ent.nil _ | exact Take.ent' (by repeat' constructor) | (repeat (first | exact Ent.refl _ | refine Ent.drop ?_))⟩
      refine AllF.cons rfl rfl rfl rfl ?_ ?_
      · refine s_min2 rfl rfl rfl ?_
        exact WpL.nil ⟨rfl, rfl, rfl, by first | exact Ent.refl _ | exact Ent.nil _ | exact Take.ent' (by repeat' constructor) | (repeat (first | exact Ent.refl _ | refine Ent.drop ?_))⟩
      refine AllF.cons rfl rfl rfl rfl ?_ ?_
      · refine s_sll_h (H := (bs.take (strd K W (wideM M) * H)).length) rfl rfl rfl htl (by rw [List.length_take]; omega) ?_
        exact obN rfl
      refine AllF.cons rfl rfl rfl rfl ?_ ?_
      · refine s_lda (vs := [_, _, _, _]) rfl rfl rfl (by rfl) ?_
        exact obN rfl
      exact AllF.nil
    · refine s_callf rfl rfl (by repeat' constructor) (rSamples_spec A0 a0 c0 (bs.take (strd K W (wideM M) * H)) hAt htb (by rw [List.length_take]; omega) (by rw [List.length_take]; omega) K (W : Int) (H : Int) M) ?_
      rintro _ _ ⟨a, c, rfl, rfl⟩
      simp only [napp]
      rw [← hls]
      refine WpL.nil ⟨rfl, rfl, ?_⟩
      apply GoR.nil [⟨9, 6, _, [0, 1, 2, 3, 4, 5, 6, 7, 8], false⟩] (.inr rfl) rfl rfl
      · refine AllF.cons rfl rfl rfl rfl ?_ ?_
        · refine s_as rfl rfl ?_
          exact obN rfl
        exact AllF.nil
      · refine Wp.seq ?_
        refine Wp.seq ?_
        refine Wp.region ?_
        refine s_as rfl rfl ?_
        refine WpL.nil ?_
        refine Wp.block ?_
        refine Wp.loopD (σ := Nat) (fun j => j ≤ ls.length ∧ badI ((wideM M : Nat) : Int) M ls 0 = badI ((wideM M : Nat) : Int) M (ls.drop j) j) [4, 7, 22, 23, 24, 25, 26, 27, 28, 29, 30, 31, 32, 33, 34, 35, 36, 37, 38] (fun j => [(7, .int .i64 (j : Int))]) (fun j => [blk g1 [.int .i64 K, .int .i64 (W : Int), .int .i64 (H : Int), .int .i64 M] 113, own 3 1 a c ls.length (ints ls), A0]) (fun j => ls.length - j) 0 ?_ (by repeat (first | exact FrLe.nil | refine FrLe.cons rfl ?_)) ?_ ?_
        · exact ⟨Nat.zero_le _, rfl⟩
        · first | exact Ent.refl _ | exact Ent.nil _ | exact Take.ent' (by repeat' constructor) | (repeat (first | exact Ent.refl _ | refine Ent.drop ?_))
        · rintro j ⟨hj, hbd⟩
          refine Wp.seq ?_
          refine Wp.seq ?_
          refine Wp.region ?_
          refine s_mv rfl rfl ?_
          refine s_mv rfl rfl ?_
          refine s_lenl rfl rfl ?_
          refine s_lt rfl rfl rfl ?_
          refine WpL.nil ?_
          refine Wp.condD rfl (fun h2 => ?_) (fun h2 => ?_)
          · have hlt : j < ls.length := by omega
            have hdc : ls.drop j = ls[j] :: ls.drop (j + 1) := List.drop_eq_getElem_cons hlt
            refine Wp.skip ?_
            refine Wp.seq ?_
            refine Wp.block ?_
            refine Wp.seq ?_
            apply Wp.draw mixed [⟨28, _, []⟩, ⟨29, _, []⟩, ⟨30, _, [0, 1]⟩, ⟨31, _, [2]⟩, ⟨32, _, []⟩, ⟨33, _, [4]⟩, ⟨34, _, [3, 5]⟩] rfl
            · refine AllObs.mk ?_ ?_
              · refine s_mv rfl rfl ?_
                exact obN rfl
              refine AllObs.mk ?_ ?_
              · refine s_mv rfl rfl ?_
                exact obN rfl
              refine AllObs.mk ?_ ?_
              · refine s_ixa j rfl rfl rfl RdsL.own (by first | exact Take.ent' (by repeat' constructor) | (repeat (first | exact Ent.refl _ | refine Ent.drop ?_))) rfl (by omega) (by rw [ints_len]; exact hlt) ?_
                exact obN rfl
              refine AllObs.mk ?_ ?_
              · refine s_ldx rfl rfl RdsL.own (by first | exact Take.ent' (by repeat' constructor) | (repeat (first | exact Ent.refl _ | refine Ent.drop ?_))) (ints_at ls hlt) ?_
                exact obN rfl
              refine AllObs.mk ?_ ?_
              · refine s_fa (o2 := 3) rfl rfl rfl ?_
                exact obN rfl
              refine AllObs.mk ?_ ?_
              · refine s_ld rfl rfl (by rfl) ?_
                exact obN rfl
              refine AllObs.mk ?_ ?_
              · refine s_gt rfl rfl rfl ?_
                exact obN rfl
              exact AllObs.nil
            · refine Wp.condD rfl (fun h3 => ?_) (fun h3 => ?_)
              · refine Wp.seq ?_
                refine Wp.region ?_
                refine s_mv rfl rfl ?_
                refine s_mv rfl rfl ?_
                first | refine s_add rfl rfl rfl (w_i64 (by omega) (by omega)) ?_ | refine s_addw rfl rfl rfl ?_
                refine s_mul rfl rfl rfl (w_i64 (by rcases hw with e | e <;> rw [e] <;> omega) (by rcases hw with e | e <;> rw [e] <;> omega)) ?_
                refine s_as rfl rfl ?_
                refine WpL.nil ?_
                refine Wp.ret ?_
                apply RetQ.mk
                · exact (Res.one rfl rfl)
                · exact ⟨by rw [show badR K W H M bs = _ from if_neg h0, ← hls, hbd, hdc, badI, if_pos h3], rfl⟩
                · first | exact Ent.refl _ | exact Ent.nil _ | exact Take.ent' (by repeat' constructor) | (repeat (first | exact Ent.refl _ | refine Ent.drop ?_))
              · refine Wp.skip ?_
                refine Wp.region ?_
                refine s_mv rfl rfl ?_
                first | refine s_add rfl rfl rfl (w_i64 (by omega) (by omega)) ?_ | refine s_addw rfl rfl rfl ?_
                refine s_as rfl rfl ?_
                refine WpL.nil ?_
                refine loopD.next (j + 1) ?_ ?_ (by first | ((repeat (first | exact Top.refl | refine Top.push rfl ?_ | refine Top.drop rfl ?_)); done) | exact Top.le (by repeat (first | exact FrLe.nil | refine FrLe.cons rfl ?_))) (by repeat (first | exact FrLe.nil | refine FrLe.cons rfl ?_)) ?_
                · exact ⟨by omega, by rw [hbd, hdc, badI, if_neg h3]; rfl⟩
                · omega
                · first | exact Ent.refl _ | exact Ent.nil _ | exact Take.ent' (by repeat' constructor) | (repeat (first | exact Ent.refl _ | refine Ent.drop ?_))
          · refine Wp.exit ?_
            refine Wp.seq ?_
            refine Wp.region ?_
            refine s_as rfl rfl ?_
            refine WpL.nil ?_
            refine Wp.ret ?_
            apply RetQ.mk
            · exact (Res.one rfl rfl)
            · exact ⟨by rw [show badR K W H M bs = _ from if_neg h0, ← hls, hbd, List.drop_of_length_le (by omega)]; rfl, rfl⟩
            · first | exact Ent.refl _ | exact Ent.nil _ | exact Take.ent' (by repeat' constructor) | (repeat (first | exact Ent.refl _ | refine Ent.drop ?_))

end Go.Proofs.YtggamdlpiejbiaaGreat
