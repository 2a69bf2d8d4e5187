/- Walks. -/
import Derived.Test.YtpoahaadnbdgcaaRawp
namespace Go.Proofs.Ytpoahaadnbdgcaa
open Go.RowKit Go.Shelf

theorem sized_spec (W : Int) : Fn Try.prog 44 #[.int .i64 W] [] (fun v l => v = .bool (decide (1 ≤ W ∧ W ≤ 4096)) ∧ l = []) := by
  refine Fn.intro (vs := [.int .i64 W]) Try.func44 rfl Try.ntmps44 rfl ?_
  refine Wp.seq ?_
  refine Wp.region ?_
  refine s_as rfl rfl ?_
  refine WpL.nil ?_
  refine Wp.seq ?_
  refine Wp.region ?_
  refine s_mv rfl rfl ?_
  refine s_ge rfl rfl rfl ?_
  refine s_mv rfl rfl ?_
  refine WpL.grd rfl rfl rfl (fun hg1 => ?_) (fun hg1 => ?_)
  · have hg1 := of_decide_eq_true hg1
    refine s_mv rfl rfl ?_
    refine WpL.gon rfl rfl ?_
    refine s_le rfl rfl rfl ?_
    refine s_pickT rfl rfl rfl ?_
    refine s_as rfl rfl ?_
    refine WpL.nil ?_
    refine Wp.ret ?_
    apply RetQ.mk
    · exact (Res.one rfl rfl)
    · exact ⟨congrArg Value.bool (by first | exact dd (by first | rfl | omega) | exact dt (by omega) | exact df (by omega)), rfl⟩
    · first | exact Ent.refl _ | exact Ent.nil _ | exact Take.ent' (by repeat' constructor) | (repeat (first | exact Ent.refl _ | refine Ent.drop ?_))
  · have hg1 := of_decide_eq_false hg1
    refine WpL.goff rfl rfl rfl (by decide) ?_
    refine s_pickF rfl rfl rfl ?_
    refine s_as rfl rfl ?_
    refine WpL.nil ?_
    refine Wp.ret ?_
    apply RetQ.mk
    · exact (Res.one rfl rfl)
    · exact ⟨congrArg Value.bool (by first | exact dd (by first | rfl | omega) | exact dt (by omega) | exact df (by omega)), rfl⟩
    · first | exact Ent.refl _ | exact Ent.nil _ | exact Take.ent' (by repeat' constructor) | (repeat (first | exact Ent.refl _ | refine Ent.drop ?_))

theorem Bytes_spec (W : Int) (h : 1 ≤ W ∧ W ≤ 4096) : Fn Try.prog 45 #[.int .i64 W] [] (fun v l => v = .int .i64 ((W + 7) / 8) ∧ l = []) := by
  refine Fn.intro (vs := [.int .i64 W]) Try.func45 rfl Try.ntmps45 rfl ?_
  refine Wp.seq ?_
  refine Wp.region ?_
  refine s_as rfl rfl ?_
  refine WpL.nil ?_
  refine Wp.seq ?_
  refine Wp.seq ?_
  refine Wp.region ?_
  refine s_mv rfl rfl ?_
  refine s_callf rfl rfl (by repeat' constructor) (sized_spec _) ?_
  rintro _ _ ⟨rfl, rfl⟩
  simp only [napp]
  refine s_notD rfl rfl ?_
  refine WpL.nil ?_
  refine Wp.condDF rfl (fun hn => hn h) ?_
  refine Wp.skip ?_
  refine Wp.seq ?_
  refine Wp.region ?_
  refine s_mv rfl rfl ?_
  first | refine s_add rfl rfl rfl (w_i64 (by omega) (by omega)) ?_ | refine s_addw rfl rfl rfl ?_
  first | refine s_sub rfl rfl rfl (w_i64 (by omega) (by omega)) ?_ | refine s_subw rfl rfl rfl ?_
  refine s_quo rfl rfl rfl (by omega) (by omega) (w_i64 (by omega) (by omega)) ?_
  refine s_as rfl rfl ?_
  refine WpL.nil ?_
  refine Wp.ret ?_
  apply RetQ.mk
  · exact (Res.one rfl rfl)
  · exact ⟨by rw [show W + 8 - 1 = W + 7 by omega], rfl⟩
  · first | exact Ent.refl _ | exact Ent.nil _ | exact Take.ent' (by repeat' constructor) | (repeat (first | exact Ent.refl _ | refine Ent.drop ?_))

theorem eighth_spec (b : Int) (hb0 : 0 ≤ b) (hb1 : b ≤ 255) : Fn Try.prog 75 #[.int .u8 b] [] (fun v l => v = .agg (eightK b 8).toArray ∧ l = []) := by
  refine Fn.intro (vs := [.int .u8 b]) Try.func75 rfl Try.ntmps75 rfl ?_
  refine Wp.seq ?_
  refine Wp.region ?_
  refine s_al rfl ?_
  intro g1
  refine WpL.nil ?_
  refine Wp.seq ?_
  refine Wp.region ?_
  refine s_al rfl ?_
  intro g2
  refine WpL.nil ?_
  refine Wp.seq ?_
  refine Wp.seq ?_
  refine Wp.region ?_
  refine s_mv rfl rfl ?_
  refine WpL.nil ?_
  refine Wp.block ?_
  refine Wp.loopD (σ := Nat) (fun k => k ≤ 8) [4, 5, 6, 7, 8, 9, 10, 11, 12, 13, 14, 15, 16] (fun k => [(5, .int .i64 (k : Int))]) (fun k => [blk g2 (eightK b k) 121, blk g1 (eightK b 0) 121]) (fun k => 8 - k) 0 ?_ (by repeat (first | exact FrLe.nil | refine FrLe.cons rfl ?_)) ?_ ?_
  · omega
  · first | exact Ent.refl _ | exact Ent.nil _ | exact Take.ent' (by repeat' constructor) | (repeat (first | exact Ent.refl _ | refine Ent.drop ?_))
  · rintro k hk
    refine Wp.seq ?_
    refine Wp.region ?_
    refine s_lt rfl rfl rfl ?_
    refine WpL.nil ?_
    refine Wp.seq ?_
    refine Wp.condD rfl (fun h1 => ?_) (fun h1 => ?_)
    · have hlt : k < 8 := by omega
      have hp := two_pos (7 - k)
      have hq0 : 0 ≤ b / 2 ^ (7 - k) := Int.ediv_nonneg hb0 (by omega)
      have hq1 : b / 2 ^ (7 - k) ≤ 255 := Int.le_trans (Int.ediv_le_self _ hb0) hb1
      refine Wp.skip ?_
      refine Wp.seq ?_
      refine Wp.block ?_
      refine Wp.seq ?_
      refine Wp.region ?_
      refine s_mv rfl rfl ?_
      refine s_as rfl rfl ?_
      refine WpL.nil ?_
      refine Wp.region ?_
      refine s_mv rfl rfl ?_
      refine s_mv rfl rfl ?_
      refine s_mv rfl rfl ?_
      first | refine s_sub rfl rfl rfl (w_i64 (by omega) (by omega)) ?_ | refine s_subw rfl rfl rfl ?_
      refine s_shr (2 ^ (7 - k)) rfl rfl rfl ⟨by omega, by simp only [IntKind.bits]; omega, by rw [show (7 - (k : Int)).toNat = 7 - k by omega]⟩ hp ?_
      refine s_and 2 1 rfl rfl rfl (by decide) hq0 (by simp only [IntKind.bits]; omega) (w_u8 (by omega) (by omega)) ?_
      first | refine s_cvi rfl Try.underlying5 rfl (w_i64 (by omega) (by omega)) ?_ | refine s_cviw rfl Try.underlying5 rfl ?_
      refine s_ixarS k rfl rfl rfl rfl (by omega) (Nat.zero_add k) ?_
      refine s_stk rfl rfl rfl (by simp [eightK]; omega) ?_
      refine WpL.nil ?_
      refine Wp.region ?_
      first | refine s_add rfl rfl rfl (w_i64 (by omega) (by omega)) ?_ | refine s_addw rfl rfl rfl ?_
      refine s_mv rfl rfl ?_
      refine WpL.nil ?_
      rw [eightK_set b hlt]
      refine loopD.next (k + 1) ?_ ?_ (by repeat (first | exact Top.refl | refine Top.push rfl ?_ | refine Top.drop rfl ?_)) (by repeat (first | exact FrLe.nil | refine FrLe.cons rfl ?_)) ?_
      · omega
      · omega
      · first | exact Ent.refl _ | exact Ent.nil _ | exact Take.ent' (by repeat' constructor) | (repeat (first | exact Ent.refl _ | refine Ent.drop ?_))
    · have hke : k = 8 := by omega
      subst hke
      unfold eightK
      refine Wp.exit ?_
      refine Wp.seq ?_
      refine Wp.region ?_
      refine s_lda (vs := [_, _, _, _, _, _, _, _]) rfl rfl rfl (by rfl) ?_
      refine s_sta rfl rfl rfl (by rfl) rfl ?_
      refine WpL.nil ?_
      refine Wp.ret ?_
      apply RetQ.mk
      · exact (RetQ.cell rfl rfl (by rfl))
      · exact ⟨rfl, rfl⟩
      · first | exact Ent.refl _ | exact Ent.nil _ | exact Take.ent' (by repeat' constructor) | (repeat (first | exact Ent.refl _ | refine Ent.drop ?_))

end Go.Proofs.Ytpoahaadnbdgcaa
