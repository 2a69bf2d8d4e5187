/- Walks and plain laws, a part of the proof of ImageCuts: every input that the law's guards let in, no condition beside. -/
import Derived.Test.YtggamdlpiejbiaaGreatM15
namespace Go.Proofs.YtggamdlpiejbiaaGreat
open Go.RowKit Go.Shelf

theorem sized_spec (W : Int) : Fn Tryz.prog 181 #[.int .i64 W] [] (fun v l => v = .bool (decide (1 ≤ W ∧ W ≤ 4096)) ∧ l = []) := by
 refine Ql (vs := [.int .i64 W]) Tryz.func181 rfl Tryz.ntmps181 rfl (Qb (Qa (Qd rfl rfl (WpL.nil (Qb (Qa (Qc rfl rfl (s_ge rfl rfl rfl (Qc rfl rfl (QN rfl rfl rfl (fun hg1 => ?_) (fun hg1 => ?_)))))))))))
 ·have hg1 := of_decide_eq_true hg1
  refine Qc rfl rfl (Qf rfl rfl (VE rfl rfl rfl (Qr rfl rfl rfl (Qd rfl rfl (WpL.nil (Qh ?_))))))
  apply RetQ.mk
  ·exact (Res.one rfl rfl)
  ·exact ⟨congrArg Value.bool (by exact dd (by omega)), rfl⟩
  ·exact Ent.refl _
 ·have hg1 := of_decide_eq_false hg1
  refine Qe rfl rfl rfl (by decide) (Qt rfl rfl rfl (Qd rfl rfl (WpL.nil (Qh ?_))))
  apply RetQ.mk
  ·exact (Res.one rfl rfl)
  ·exact ⟨congrArg Value.bool (by exact df (by omega)), rfl⟩
  ·exact Ent.refl _

theorem Bytes_spec (W : Int) (h : 1 ≤ W ∧ W ≤ 4096) : Fn Tryz.prog 182 #[.int .i64 W] [] (fun v l => v = .int .i64 ((W + 7) / 8) ∧ l = []) := by
 refine Ql (vs := [.int .i64 W]) Tryz.func182 rfl Tryz.ntmps182 rfl (Qb (Qa (Qd rfl rfl (WpL.nil (Qb (Qb (Qa (Qc rfl rfl (Qi rfl rfl (by repeat' constructor) (sized_spec _) ?_)))))))))
 rintro _ _ ⟨rfl, rfl⟩
 simp only [Qs]
 refine XV rfl rfl (WpL.nil (Qz rfl (fun hn => hn h) ?_))
 refine Wp.skip (Qb (Qa (Qc rfl rfl (QA rfl rfl rfl (Qo (by omega) (by omega)) ?_))))
 refine Yp rfl rfl rfl (Qo (by omega) (by omega)) ?_
 refine YR rfl rfl rfl (by omega) (by omega) (Qo (by omega) (by omega)) ?_
 refine Qd rfl rfl (WpL.nil (Qh ?_))
 apply RetQ.mk
 ·exact (Res.one rfl rfl)
 ·exact ⟨by rw [show W + 8 - 1 = W + 7 by omega], rfl⟩
 ·exact Ent.refl _

theorem eighth_spec (b : Int) (hb0 : 0 ≤ b) (hb1 : b ≤ 255) : Fn Tryz.prog 209 #[.int .u8 b] [] (fun v l => v = .agg (eightK b 8).toArray ∧ l = []) := by
 refine Ql (vs := [.int .u8 b]) Tryz.func209 rfl Tryz.ntmps209 rfl (Qb (Qa (XH rfl ?_)))
 intro g1
 refine WpL.nil (Qb (Qa (XH rfl ?_)))
 intro g2
 refine WpL.nil (Qb (Qb (Qa (Qc rfl rfl (WpL.nil (Wp.block ?_))))))
 refine Wp.loopD (σ := Nat) (fun k => k ≤ 8) [4, 5, 6, 7, 8, 9, 10, 11, 12, 13, 14, 15, 16] (fun k => [(5, .int .i64 (k : Int))]) (fun k => [QK g2 (eightK b k) 271, QK g1 (eightK b 0) 271]) (fun k => 8 - k) 0 ?_ (by repeat (first | exact FrLe.nil | refine FrLe.cons rfl ?_)) ?_ ?_
 ·omega
 ·exact Ent.refl _
 ·rintro k hk
  refine Qb (Qa (Q8 rfl rfl rfl (WpL.nil (Qb (Qj rfl (fun h1 => ?_) (fun h1 => ?_))))))
  ·have hlt : k < 8 := by omega
   have hp := two_pos (7 - k)
   have hq0 : 0 ≤ b / 2 ^ (7 - k) := Int.ediv_nonneg hb0 (by omega)
   have hq1 : b / 2 ^ (7 - k) ≤ 255 := Int.le_trans (Int.ediv_le_self _ hb0) hb1
   refine Wp.skip (Qb (Wp.block ?_))
   refine Qb (Qa (Qc rfl rfl (Qd rfl rfl (WpL.nil (Qa (Qc rfl rfl (Qc rfl rfl (Qc rfl rfl (Yp rfl rfl rfl (Qo (by omega) (by omega)) ?_)))))))))
   refine s_shr (2 ^ (7 - k)) rfl rfl rfl ⟨by omega, by simp only [IntKind.bits]; omega, by rw [show (7 - (k : Int)).toNat = 7 - k by omega]⟩ hp ?_
   refine s_and 2 1 rfl rfl rfl (by decide) hq0 (by simp only [IntKind.bits]; omega) (w_u8 (by omega) (by omega)) ?_
   refine XY rfl Tryz.underlying5 rfl (Qo (by omega) (by omega)) ?_
   refine s_ixarS k rfl rfl rfl rfl (by omega) (Nat.zero_add k) ?_
   refine s_stk rfl rfl rfl (by simp [eightK]; omega) ?_
   refine WpL.nil (Qa (QA rfl rfl rfl (Qo (by omega) (by omega)) ?_))
   refine Qc rfl rfl (WpL.nil ?_)
   rw [eightK_set b hlt]
   refine Qq (k + 1) ?_ ?_ (by ((repeat (first | exact Top.refl | refine Top.push rfl ?_)); done)) (by repeat (first | exact FrLe.nil | refine FrLe.cons rfl ?_)) ?_
   ·omega
   ·omega
   ·exact Ent.refl _
  ·have hke : k = 8 := by omega
   subst hke
   unfold eightK
   refine QP (Qb (Qa ?_))
   refine Qw (vs := [_, _, _, _, _, _, _, _]) rfl rfl rfl (by rfl) ?_
   refine QC rfl rfl rfl (by rfl) rfl ?_
   refine WpL.nil (Qh ?_)
   apply RetQ.mk
   ·exact (XC rfl rfl (by rfl))
   ·exact ⟨rfl, rfl⟩
   ·exact Ent.nil _

end Go.Proofs.YtggamdlpiejbiaaGreat
namespace Go.Proofs.YtggamdlpiejbiaaGreat
open Go.RowKit Go.Shelf

set_option maxHeartbeats 1000000 in
theorem allF_spec (A0 : HP) (a : Option Addr) (c : Nat) (bs : List Int) (hA : RdsL [A0] a (Xt bs)) (hbs : ∀ x ∈ bs, 0 ≤ x ∧ x ≤ 255) (hbl : bs.length ≤ 1000000000) (gb y : Nat) (J Jx : Nat → List HP → Prop) (hY : ∀ k (_ : k < 8 * bs.length) m, J k m → Yld Tryz.prog y ([.int .i64 (k : Int), .int .i64 (bitAt bs k)] : List Value).toArray m (rdR J Jx k)) (m0 : List HP) (h0 : J 0 m0) : Fn Tryz.prog 208 #[.func (.yield y) #[] #[], .pointer (some ⟨gb, 0, none⟩)] (QK gb [.slice a bs.length c] 22 :: A0 :: m0) (fun _ l => ∃ m', (J (8 * bs.length) m' ∨ ∃ k, k < 8 * bs.length ∧ Jx k m') ∧ l = QK gb [.slice a bs.length c] 22 :: A0 :: m') := by
 refine Ql (vs := [.func (.yield y) #[] #[], .pointer (some ⟨gb, 0, none⟩)]) Tryz.func208 rfl Tryz.ntmps208 rfl ?_
 refine Qb (Qa (Qn rfl rfl (by rfl) ?_))
 refine QO rfl rfl (Qc rfl rfl (WpL.nil (Wp.block ?_)))
 refine Wp.loopD (σ := NmX) (fun x => x.k ≤ bs.length ∧ J (8 * x.k) x.m) [3, 4, 5, 6, 9, 10, 11, 12, 13, 14, 15, 16, 17, 18, 19, 20, 21, 22, 23, 24, 25, 26, 27, 28, 29] (fun x => [(9, .int .i64 (x.k : Int))]) (fun x => QK gb [.slice a bs.length c] 22 :: A0 :: x.m) (fun x => bs.length - x.k) ⟨0, m0⟩ ?_ (by repeat (first | exact FrLe.nil | refine FrLe.cons rfl ?_)) ?_ ?_
 ·exact ⟨Nat.zero_le _, h0⟩
 ·exact Ent.refl _
 ·rintro ⟨k, m1⟩ ⟨hk, hJ⟩
  dsimp only at hk hJ ⊢
  refine Qb (Qa (Q8 rfl rfl rfl (WpL.nil (Qb (Qj rfl (fun h1 => ?_) (fun h1 => ?_))))))
  ·have hlt : k < bs.length := by omega
   have hb := hbs _ (List.getElem_mem hlt)
   refine Wp.skip (Qb (Wp.block ?_))
   refine Qb (Qa (Qc rfl rfl (Xg k rfl rfl rfl hA (by exact Take.ent' (by repeat' constructor)) rfl (by omega) (by rw [Xi]; omega) ?_)))
   refine Xk rfl rfl hA (by exact Take.ent' (by repeat' constructor)) (YW bs hlt) ?_
   refine Qd rfl rfl (Qd rfl rfl (WpL.nil (Qb (Qa (Qc rfl rfl (Qi rfl rfl (by repeat' constructor) (eighth_spec _ hb.1 hb.2) ?_))))))
   rintro _ _ ⟨rfl, rfl⟩
   simp only [Qs]
   refine Qc rfl rfl (WpL.nil (Wp.block ?_))
   refine Wp.loopD (σ := JmX) (fun z => z.j ≤ 8 ∧ J (8 * k + z.j) z.m) [5, 6, 16, 17, 18, 19, 20, 21, 22, 23, 24, 25, 26, 27, 28] (fun z => [(16, .int .i64 (z.j : Int))]) (fun z => QK gb [.slice a bs.length c] 22 :: A0 :: z.m) (fun z => 8 - z.j) ⟨0, m1⟩ ?_ (by repeat (first | exact FrLe.nil | refine FrLe.cons rfl ?_)) ?_ ?_
   ·exact ⟨Nat.zero_le _, hJ⟩
   ·exact Ent.refl _
   ·rintro ⟨j, m2⟩ ⟨hj, hJ2⟩
    dsimp only at hj hJ2 ⊢
    refine Qb (Qa (Q8 rfl rfl rfl (WpL.nil (Qb (Qj rfl (fun h3 => ?_) (fun h3 => ?_))))))
    ·have hlj : j < 8 := by omega
     have hY1 := hY (8 * k + j) (by omega) m2 hJ2
     rw [bitAt_at hlt hlj, show (((8 * k + j : Nat)) : Int) = 8 * (k : Int) + (j : Int) by omega] at hY1
     refine Wp.skip (Qb (Wp.block ?_))
     refine Qb (Qa (Qc rfl rfl (s_ixav (k := j) rfl rfl rfl rfl (by omega) (eight_at _ hlj) ?_)))
     refine Qd rfl rfl (Qd rfl rfl (WpL.nil (Qb (Qa (Qc rfl rfl (Qc rfl rfl (Xv rfl rfl rfl (Qo (by omega) (by omega)) ?_)))))))
     refine Qc rfl rfl (QA rfl rfl rfl (Qo (by omega) (by omega)) ?_)
     refine Qc rfl rfl (s_yield rfl rfl rfl rfl (by repeat (first | exact Take.all | apply Take.skip)) (hY1) ?_)
     rintro v m' (⟨rfl, hm'⟩ | ⟨rfl, hm'⟩)
     ·simp only [Qs]
      refine Zp rfl rfl (WpL.nil (QW rfl (Wp.skip (Qa (QA rfl rfl rfl (Qo (by omega) (by omega)) ?_)))))
      refine Qc rfl rfl (WpL.nil (Qq (⟨j + 1, m'⟩ : JmX) ?_ ?_ (by ((repeat (first | exact Top.refl | refine Top.push rfl ?_)); done)) (by repeat (first | exact FrLe.nil | refine FrLe.cons rfl ?_)) ?_))
      ·exact ⟨by simp only; omega, hm'⟩
      ·simp only; omega
      ·exact Ent.refl _
     ·simp only [Qs]
      refine Zp rfl rfl (WpL.nil (Xn rfl (Qh ?_)))
      apply RetQ.mk
      ·exact (Yi rfl)
      ·exact ⟨m', .inr ⟨_, by omega, hm'⟩, rfl⟩
      ·exact Ent.refl _
    ·refine QP (Qa (QA rfl rfl rfl (Qo (by omega) (by omega)) ?_))
     refine Qc rfl rfl (WpL.nil (Qq (⟨k + 1, m2⟩ : NmX) ?_ ?_ (by ((repeat (first | exact Top.refl | refine Top.push rfl ?_)); done)) (by repeat (first | exact FrLe.nil | refine FrLe.cons rfl ?_)) ?_))
     ·exact ⟨by simp only; omega, by simp only; rw [show 8 * (k + 1) = 8 * k + j by omega]; exact hJ2⟩
     ·simp only; omega
     ·exact Ent.refl _
  ·refine QP ?_
   apply Zh
   ·exact (Yi rfl)
   ·have hke : k = bs.length := by omega
    rw [hke] at hJ
    exact ⟨m1, .inl hJ, rfl⟩
   ·exact Ent.refl _


theorem all_iter (A0 : HP) (a : Option Addr) (c : Nat) (bs : List Int) (hA : RdsL [A0] a (Xt bs)) (hbs : ∀ x ∈ bs, 0 ≤ x ∧ x ≤ 255) (hbl : bs.length ≤ 1000000000) (gb : Nat) :
    Iter Tryz.prog 208 [.pointer (some ⟨gb, 0, none⟩)] (fun k : Nat => [.int .i64 (k : Int), .int .i64 (bitAt bs k)]) (List.range (8 * bs.length)) [QK gb [.slice a bs.length c] 22, A0] [QK gb [.slice a bs.length c] 22, A0] := by
  intro y J Jx hY m h0
  have hl : (List.range (8 * bs.length)).length = 8 * bs.length := List.length_range
  rw [hl]
  have h := allF_spec A0 a c bs hA hbs hbl gb y J Jx (fun k hk m hJ => by have := hY k (by rw [hl]; exact hk) m hJ; simpa using this) m h0
  exact h.mono fun v l hv => ⟨l, by obtain ⟨m', hm, rfl⟩ := hv; exact ⟨m', hm, rfl⟩, Ent.refl _⟩

theorem all_spec (A0 : HP) (a : Option Addr) (c : Nat) (bs : List Int) : Fn Tryz.prog 203 #[.slice a bs.length c] [A0] (fun v l => ∃ gb, v = .func (.func 208) #[] #[.pointer (some ⟨gb, 0, none⟩)] ∧ l = [QK gb [.slice a bs.length c] 22, A0]) := by
 refine Ql (vs := [.slice a bs.length c]) Tryz.func203 rfl Tryz.ntmps203 rfl (Qb (Qa (Q2 rfl rfl rfl ?_)))
 intro g1
 refine Qd rfl rfl (WpL.nil (Qb (Qa (s_mkf rfl (fun a hh => Ys hh _ _ rfl) ?_))))
 refine Qd rfl rfl (WpL.nil (Qh ?_))
 apply RetQ.mk
 ·exact (Res.one rfl rfl)
 ·exact ⟨_, rfl, rfl⟩
 ·exact Ent.refl _

end Go.Proofs.YtggamdlpiejbiaaGreat
namespace Go.Proofs.YtggamdlpiejbiaaGreat
open Go.RowKit Go.Shelf

theorem UnpackB_spec (A0 : HP) (a : Option Addr) (c : Nat) (bs : List Int) (hA : RdsL [A0] a (Xt bs)) (hbs : ∀ x ∈ bs, 0 ≤ x ∧ x ≤ 255) (hbl : bs.length ≤ 1000000000) (W : Nat) (hW : 1 ≤ W ∧ W ≤ 4096) (hn : bs.length = (W + 7) / 8) (hc : bs.length ≤ c) : Fn Tryz.prog 194 #[.slice a bs.length c, .int .i64 (W : Int)] [A0] (fun v l => ∃ a' c', v = .tuple #[.slice a' W c', .int .i64 0] ∧ l = [QX 3 1 a' c' W (Q5 (YH bs W)), A0]) := by
 refine Ql (vs := [.slice a bs.length c, .int .i64 (W : Int)]) Tryz.func194 rfl Tryz.ntmps194 rfl (Qb (Qa (Q2 rfl rfl rfl ?_)))
 intro g1
 refine Qd rfl rfl (Qd rfl rfl (WpL.nil (Qb (Qa (Qn rfl rfl (by rfl) ?_)))))
 refine Qi rfl rfl (by repeat' constructor) (Bytes_spec _ (by omega)) ?_
 rintro _ _ ⟨rfl, rfl⟩
 simp only [Qs]
 refine Qd rfl rfl (WpL.nil (Qb (Wp.block ?_)))
 refine Qb (Qa (Qc rfl rfl (QH rfl rfl rfl (Qd rfl rfl (WpL.nil (Qz rfl (by omega) ?_))))))
 refine Qb (Qa (Qc rfl rfl (QO rfl rfl (Qc rfl rfl (Q8 rfl rfl rfl (Qd rfl rfl (WpL.nil (Qz rfl (by omega) ?_))))))))
 refine Wp.skip (Qb (Qa (XH rfl ?_)))
 intro g2
 refine WpL.nil (Qb (Qb (Qa (Qc rfl rfl (Qc rfl rfl (s_sll_h (H := bs.length) rfl rfl rfl (by omega) (by omega) ?_))))))
 refine Qi rfl rfl (by repeat' constructor) (all_spec A0 a c bs) ?_
 rintro _ _ ⟨gb, rfl, rfl⟩
 simp only [Qs]
 refine WpL.nil (Wp.block ?_)
 refine Wp.rangeF (encs := fun k : Nat => [.int .i64 (k : Int), .int .i64 (bitAt bs k)]) (xs := List.range (8 * bs.length)) (QX := [QK gb [.slice a bs.length c] 22, A0]) (own' := [QK gb [.slice a bs.length c] 22, A0]) (m0 := [QK g2 [.slice none 0 0] 26, QK g1 [.int .i64 (W : Int)] 3, QX 3 1 none 0 0 []]) rfl rfl (all_iter A0 a c bs hA hbs hbl gb) (fun _ => rfl) rfl (fun k m => ∃ a9 c9, m = [QK g2 [.slice a9 (min k W) c9] 26, QK g1 [.int .i64 (W : Int)] 3, QX 3 1 a9 c9 (min k W) (Q5 (YH bs (min k W)))]) (fun _ _ _ => False) ?_ ?_ ?_ ?_ ?_
 ·exact ⟨none, 0, by rw [Nat.zero_min]; rfl⟩
 ·simp only [Qs]
  exact (Ent.own_nil (T := 3) (s := 1) (Ent.refl _)).trans (Take.ent' (by repeat' constructor))
 ·intro y k hk m hm
  obtain ⟨a9, c9, rfl⟩ := hm
  rw [List.getElem_range]
  rw [List.length_range] at hk
  refine Qb (Qa (Qd rfl rfl (WpL.nil (Qa (Qd rfl rfl (WpL.nil (⟨rfl, rfl, ?_⟩)))))))
  refine Wp.block ?_
  refine Qb (Qa (Qc rfl rfl (Qn rfl rfl (by rfl) ?_)))
  refine Q8 rfl rfl rfl (WpL.nil (Qj rfl (fun h3 => ?_) (fun h3 => ?_)))
  ·rw [Nat.min_eq_left (show k ≤ W by omega)]
   refine Qa (Qn rfl rfl (by rfl) ?_)
   refine Qc rfl rfl ?_
   refine X4 rfl rfl rfl rfl ?_
   intro g3
   refine XN rfl rfl rfl (by repeat' constructor) (by rfl) (by rfl) (by rfl) (by rfl) (by omega) (by omega) ?_
   intro a32 c32
   refine QV rfl rfl rfl (WpL.nil ?_)
   rw [Ym, ubits_snoc]
   refine ⟨_, ⟨a32, c32, rfl⟩, ?_⟩
   rw [Nat.min_eq_left (show k + 1 ≤ W by omega)]
   exact Take.ent' (by repeat' constructor)
  ·rw [Nat.min_eq_right (show W ≤ k by omega)]
   refine Wp.skip (⟨_, ⟨a9, c9, rfl⟩, ?_⟩)
   rw [Nat.min_eq_right (show W ≤ k + 1 by omega)]
   exact Ent.refl _
 ·intro q1 m hm
  obtain ⟨a9, c9, rfl⟩ := hm
  rw [List.length_range]
  simp only [Qs]
  rw [Nat.min_eq_right (show W ≤ 8 * bs.length by omega)]
  refine Qb (Qa (Qn rfl rfl (by rfl) ?_))
  refine Qd rfl rfl (Qd rfl rfl (WpL.nil (Qh ?_)))
  apply RetQ.mkR [q1] rfl (by repeat' constructor)
  ·exact (QM rfl rfl rfl)
  ·exact ⟨a9, c9, rfl, rfl⟩
  ·exact Take.ent' (by repeat' constructor)
 ·exact fun _ _ _ _ _ h => h.elim

end Go.Proofs.YtggamdlpiejbiaaGreat
namespace Go.Proofs.YtggamdlpiejbiaaGreat
open Go.RowKit Go.Shelf

theorem u8s_zero (N : Nat) : List.replicate N (Value.int .u8 0) = Xt (List.replicate N 0) := by simp [Xt]
theorem outB_at (l : List Int) {n i k : Nat} (h : k < n) : (Xt (outB l n i))[k]? = some (.int .u8 (X7 (l.take i) k)) := by
  rw [YW _ (by rw [outB_len]; exact h)]; simp [outB]

set_option maxHeartbeats 1000000 in
theorem PackB_spec (A0 : HP) (a : Option Addr) (c : Nat) (row : List Int) (hA : RdsL [A0] a (Q5 row)) (hb : ∀ x ∈ row, ZD x) (h1 : 1 ≤ row.length) (h2 : row.length ≤ 4096) : Fn Tryz.prog 144 #[.slice a row.length c] [A0] (fun v l => ∃ gB, v = .tuple #[.slice (some ⟨gB, 0, none⟩) ((row.length + 7) / 8) ((row.length + 7) / 8), .int .i64 0] ∧ l = [QX 5 1 (some ⟨gB, 0, none⟩) ((row.length + 7) / 8) ((row.length + 7) / 8) (Xt (YB row)), A0]) := by
 refine Ql (vs := [.slice a row.length c]) Tryz.func144 rfl Tryz.ntmps144 rfl (Qb (Qa (Qd rfl rfl (Qd rfl rfl (WpL.nil (Qb (Qb (Qa (Qc rfl rfl (QO rfl rfl (Qi rfl rfl (by repeat' constructor) (sized_spec _) ?_)))))))))))
 rintro _ _ ⟨rfl, rfl⟩
 simp only [Qs]
 refine XV rfl rfl (WpL.nil (Qz rfl (fun hn => hn (by omega)) ?_))
 refine Wp.skip (Qb (Qa (Qc rfl rfl (QO rfl rfl (Qi rfl rfl (by repeat' constructor) (Bytes_spec _ (by omega)) ?_)))))
 rintro _ _ ⟨rfl, rfl⟩
 simp only [Qs]
 refine s_mko ((row.length + 7) / 8) rfl rfl (by omega) (by omega) (by omega) rfl ?_
 intro gB
 rw [u8s_zero, ← outB_zero row]
 refine Qd rfl rfl (WpL.nil (Qb (Qb (Qa (Qc rfl rfl (QO rfl rfl (Qc rfl rfl (WpL.nil (Wp.block ?_)))))))))
 refine Wp.loopD (σ := Nat) (fun k => k ≤ row.length) [2, 3, 5, 6, 17, 18, 19, 20, 21, 22, 23, 24, 25, 26, 27, 28, 29, 30, 31, 32, 33, 34, 35, 36, 37, 38, 39, 40, 41] (fun k => [(17, .int .i64 (k : Int))]) (fun k => [QX 5 1 (some ⟨gB, 0, none⟩) ((row.length + 7) / 8) ((row.length + 7) / 8) (Xt (outB row ((row.length + 7) / 8) k)), A0]) (fun k => row.length - k) 0 ?_ (by repeat (first | exact FrLe.nil | refine FrLe.cons rfl ?_)) ?_ ?_
 ·exact Nat.zero_le _
 ·exact Ent.refl _
 ·rintro k hk
  refine Qb (Qa (Q8 rfl rfl rfl (WpL.nil (Qb (Qj rfl (fun h2 => ?_) (fun h2 => ?_))))))
  ·have hlt : k < row.length := by omega
   have hbk := hb _ (List.getElem_mem hlt)
   refine Wp.skip (Qb (Wp.block ?_))
   refine Qb (Qa (Qc rfl rfl (Xg k rfl rfl rfl hA (by exact Take.ent' (by repeat' constructor)) rfl (by omega) (by rw [Xf]; omega) ?_)))
   refine Xk rfl rfl hA (by exact Take.ent' (by repeat' constructor)) (XA row hlt) ?_
   refine Qd rfl rfl (Qd rfl rfl (WpL.nil ?_))
   refine Wp.cut (True) [2, 3, 22, 23, 24, 25, 26, 27] ?_ (fun hc3 => ?_)
   ·refine Qb (Qa (Qc rfl rfl (Xq rfl rfl rfl (Qc rfl rfl (QN rfl rfl rfl (fun hg1 => ?_) (fun hg1 => ?_))))))
    ·have hg1 := of_decide_eq_true hg1
     refine Qc rfl rfl (Qf rfl rfl (Xq rfl rfl rfl (Qr rfl rfl rfl (WpL.nil (Qz rfl (by have := hbk; unfold ZD at this; omega) ?_)))))
     refine Wp.skip ?_
     refine Z0 ?_ (by ((repeat (first | exact Top.refl | refine Top.push rfl ?_)); done)) (by exact Ent.refl _)
     exact trivial
    ·have hg1 := of_decide_eq_false hg1
     refine Qe rfl rfl rfl (by decide) (Qt rfl rfl rfl (WpL.nil (QW rfl (Wp.skip ?_))))
     refine Z0 ?_ (by ((repeat (first | exact Top.refl | refine Top.push rfl ?_)); done)) (by exact Ent.refl _)
     exact trivial
   ·obtain ⟨q, hq⟩ := byteAt_mul hlt
    have hbt := byteAt_bd (l := row.take k) (fun x hx => hb x (List.mem_of_mem_take hx)) (k / 8)
    have hbt2 := byteAt_bd (l := row.take (k + 1)) (fun x hx => hb x (List.mem_of_mem_take hx)) (k / 8)
    have hst := byteAt_step hlt
    have hp0 := two_pos (7 - k % 8)
    have hp1 := two_pos (7 - k % 8 + 1)
    have hp7 : (2 : Int) ^ (7 - k % 8) ≤ 128 := by exact_mod_cast Nat.pow_le_pow_right (show 0 < 2 by decide) (show 7 - k % 8 ≤ 7 by omega)
    have hm0 : 0 ≤ row[k] * 2 ^ (7 - k % 8) ∧ row[k] * 2 ^ (7 - k % 8) ≤ 128 := by
     have := hbk
     unfold ZD at this
     rcases this with e | e <;> rw [e] <;> omega
    have hq0 : 0 ≤ q := by
     rcases Int.lt_or_le q 0 with h | h
     ·have := Int.mul_neg_of_neg_of_pos h hp1; omega
     ·exact h
    have hor := or_bits (s := 7 - k % 8) hq0 hbk
    rw [← hq] at hor
    apply Xe (fB := []) mixed [(13, false)] (by kernel_rfl)
    apply Q7 [⟨0, 28, _, [], false⟩, ⟨1, 29, _, [], false⟩, ⟨2, 30, _, [1], false⟩, ⟨3, 31, _, [0, 2], false⟩, ⟨4, 32, _, [3], false⟩, ⟨5, 33, _, [], false⟩, ⟨6, 34, _, [], false⟩, ⟨7, 35, _, [6], false⟩, ⟨8, 36, _, [7], false⟩, ⟨9, 37, _, [5, 8], false⟩, ⟨10, 38, _, [9], false⟩, ⟨11, 39, _, [4, 10], false⟩, ⟨12, 40, _, [0, 1, 2, 3, 4, 5, 6, 7, 8, 9, 10, 11], false⟩] [] [0, 1, 2, 3, 4, 5, 6, 7, 8, 9, 10, 11, 12] [] (.inr rfl) rfl rfl rfl (by kernel_rfl) rfl rfl rfl
    ·refine AllF.cons rfl rfl rfl rfl ?_ ?_
     ·exact Qc rfl rfl (Qm rfl)
     refine AllF.cons rfl rfl rfl rfl ?_ ?_
     ·exact Qc rfl rfl (Qm rfl)
     refine AllF.cons rfl rfl rfl rfl ?_ ?_
     ·refine YR rfl rfl rfl (by omega) (by omega) (Qo (by omega) (by omega)) ?_
      rw [show (k : Int) / 8 = ((k / 8 : Nat) : Int) from rfl]
      exact Qm rfl
     refine AllF.cons rfl rfl rfl rfl ?_ ?_
     ·refine Xg (k / 8) rfl rfl rfl Q0 (by exact Take.ent' (by repeat' constructor)) rfl (by omega) (by rw [Xi, outB_len]; omega) ?_
      exact Qm rfl
     refine AllF.cons rfl rfl rfl rfl ?_ ?_
     ·refine Xk rfl rfl Q0 (by exact Take.ent' (by repeat' constructor)) (outB_at row (by omega)) ?_
      exact Qm rfl
     refine AllF.cons rfl rfl rfl rfl ?_ ?_
     ·exact Qc rfl rfl (Qm rfl)
     refine AllF.cons rfl rfl rfl rfl ?_ ?_
     ·exact Qc rfl rfl (Qm rfl)
     refine AllF.cons rfl rfl rfl rfl ?_ ?_
     ·refine YD rfl rfl rfl (by omega) (by omega) ?_
      exact Qm rfl
     refine AllF.cons rfl rfl rfl rfl ?_ ?_
     ·refine Yp rfl rfl rfl (Qo (by omega) (by omega)) ?_
      exact Qm rfl
     refine AllF.cons rfl rfl rfl rfl ?_ ?_
     ·refine s_shl (2 ^ (7 - k % 8)) rfl rfl rfl ⟨by omega, by simp only [IntKind.bits]; omega, by rw [show (7 - (k : Int) % 8).toNat = 7 - k % 8 by omega]⟩ (Qo (by omega) (by omega)) ?_
      exact Qm rfl
     refine AllF.cons rfl rfl rfl rfl ?_ ?_
     ·refine XY rfl Tryz.underlying3 rfl (w_u8 (by omega) (by omega)) ?_
      exact Qm rfl
     refine AllF.cons rfl rfl rfl rfl ?_ ?_
     ·refine s_orv (X7 (row.take k) (k / 8) + row[k] * 2 ^ (7 - k % 8)) rfl rfl rfl ⟨hbt.1, by simp only [IntKind.bits]; omega⟩ ⟨hm0.1, by simp only [IntKind.bits]; omega⟩ hor (w_u8 (by omega) (by omega)) ?_
      exact Qm rfl
     refine AllF.cons rfl rfl rfl rfl ?_ ?_
     ·refine Xg (k / 8) rfl rfl rfl Q0 (by exact Take.ent' (by repeat' constructor)) rfl (by omega) (by rw [Xi, outB_len]; omega) ?_
      exact Qm rfl
     exact AllF.nil
    ·refine s_sto rfl rfl rfl (by repeat' constructor) (by rw [Xi, outB_len]; omega) ?_
     refine WpL.nil ⟨rfl, rfl, ?_⟩
     apply GoR.nil [] (.inr rfl) rfl rfl
     ·exact AllF.nil
     ·refine Qa (QA rfl rfl rfl (Qo (by omega) (by omega)) ?_)
      refine Qc rfl rfl (WpL.nil ?_)
      rw [u8s_set, outB_step hlt (by omega)]
      refine Qq (k + 1) ?_ ?_ (by ((repeat (first | exact Top.refl | refine Top.push rfl ?_)); done)) (by repeat (first | exact FrLe.nil | refine FrLe.cons rfl ?_)) ?_
      ·omega
      ·omega
      ·exact Ent.refl _
  ·have hke : k = row.length := by omega
   rw [hke, outB_all]
   refine QP (Qb (Qa (Qc rfl rfl (Qd rfl rfl (Qd rfl rfl (WpL.nil (Qh ?_)))))))
   apply RetQ.mk
   ·exact (QM rfl rfl rfl)
   ·exact ⟨gB, rfl, rfl⟩
   ·exact Ent.refl _

end Go.Proofs.YtggamdlpiejbiaaGreat
namespace Go.Proofs.YtggamdlpiejbiaaGreat
open Go.RowKit Go.Shelf

theorem Vo (k ch : Nat) : (k + 1) * ch = k * ch + ch := by rw [Nat.add_mul, Nat.one_mul]

set_option maxHeartbeats 1000000 in
theorem chunkF_spec (a : Option Addr) (c N ch W : Nat) (hch : 1 ≤ ch) (hN : N = W * ch) (hNc : N ≤ c) (hNb : N ≤ 1000000000) (gs gn y : Nat) (J Jx : Nat → List HP → Prop) (hY : ∀ k (_ : k < W) m, J k m → Yld Tryz.prog y ([.slice (sla a (k * ch) ((k + 1) * ch) 1) ch ch] : List Value).toArray m (rdR J Jx k)) (m0 : List HP) (h0 : J 0 m0) : Fn Tryz.prog 204 #[.func (.yield y) #[] #[], .pointer (some ⟨gs, 0, none⟩), .pointer (some ⟨gn, 0, none⟩)] (QK gs [.slice a N c] 26 :: QK gn [.int .i64 (ch : Int)] 3 :: m0) (fun _ l => ∃ m', (J W m' ∨ ∃ k, k < W ∧ Jx k m') ∧ l = QK gs [.slice a N c] 26 :: QK gn [.int .i64 (ch : Int)] 3 :: m') := by
 refine Ql (vs := [.func (.yield y) #[] #[], .pointer (some ⟨gs, 0, none⟩), .pointer (some ⟨gn, 0, none⟩)]) Tryz.func204 rfl Tryz.ntmps204 rfl ?_
 refine Qb (Qa (Qd rfl rfl (WpL.nil (Wp.block ?_))))
 refine Wp.loopD (σ := NmX) (fun x => x.k ≤ W ∧ J x.k x.m) [4, 5, 6, 7, 8, 9, 10, 11, 12, 13, 14, 15, 16, 17, 18, 19, 20, 21, 22, 23, 24, 25, 26, 27, 28, 29, 30] (fun x => [(4, .int .i64 ((x.k * ch : Nat) : Int))]) (fun x => QK gs [.slice a N c] 26 :: QK gn [.int .i64 (ch : Int)] 3 :: x.m) (fun x => W - x.k) ⟨0, m0⟩ ?_ (FrLe.cons (by rw [Nat.zero_mul]; rfl) FrLe.nil) ?_ ?_
 ·exact ⟨Nat.zero_le _, h0⟩
 ·exact Ent.refl _
 ·rintro ⟨k, m1⟩ ⟨hk, hJ⟩
  dsimp only at hk hJ ⊢
  have hkN : k * ch ≤ N := by rw [hN]; exact Nat.mul_le_mul_right _ hk
  refine Qb (Qb (Qa (Qc rfl rfl (Qn rfl rfl (by rfl) ?_))))
  refine QO rfl rfl (Q8 rfl rfl rfl (WpL.nil (Qj rfl (fun h1 => ?_) (fun h1 => ?_))))
  ·have hlt : k < W := by
    rcases Nat.lt_or_ge k W with h | h
    ·exact h
    ·have := Nat.mul_le_mul_right ch h; omega
   have hkN1 : (k + 1) * ch ≤ N := by rw [hN]; exact Nat.mul_le_mul_right _ hlt
   have hks := Vo k ch
   have hY1 := hY k hlt m1 hJ
   refine Wp.skip (Qb (Wp.block ?_))
   refine Qb ?_
   apply Q9 mixed [⟨13, _, []⟩, ⟨14, _, []⟩, ⟨15, _, []⟩, ⟨16, _, [1, 2]⟩, ⟨17, _, [3]⟩, ⟨18, _, [0, 4]⟩, ⟨5, _, [5, 0, 1, 2, 3, 4]⟩] rfl
   ·refine AllObs.mk ?_ ?_
    ·refine Qn rfl rfl (by rfl) ?_
     exact Qm rfl
    refine AllObs.mk ?_ ?_
    ·refine Qn rfl rfl (by rfl) ?_
     exact Qm rfl
    refine AllObs.mk ?_ ?_
    ·exact Qc rfl rfl (Qm rfl)
    refine AllObs.mk ?_ ?_
    ·exact Z9 (L := k * ch) rfl rfl rfl rfl hkN (Qm rfl)
    refine AllObs.mk ?_ ?_
    ·exact QO rfl rfl (WpL.nil ⟨rfl, rfl, rfl, by exact Ent.refl _⟩)
    refine AllObs.mk ?_ ?_
    ·refine s_min2 rfl rfl rfl ?_
     rw [show min (ch : Int) ((N - k * ch : Nat) : Int) = (ch : Int) by omega]
     exact WpL.nil ⟨rfl, rfl, rfl, by exact Ent.refl _⟩
    refine AllObs.mk ?_ ?_
    ·exact Qd rfl rfl (Qm rfl)
    exact AllObs.nil
   ·refine Qb (Qa (Qc rfl rfl (Qn rfl rfl (by rfl) ?_)))
    refine Qc rfl rfl (Qc rfl rfl (Qc rfl rfl (QA rfl rfl rfl (Qo (by omega) (by omega)) ?_)))
    rw [show ((k * ch : Nat) : Int) + (ch : Int) = (((k + 1) * ch : Nat) : Int) by omega]
    refine Qc rfl rfl (Qc rfl rfl (QA rfl rfl rfl (Qo (by omega) (by omega)) ?_))
    rw [show ((k * ch : Nat) : Int) + (ch : Int) = (((k + 1) * ch : Nat) : Int) by omega]
    refine s_sll_lhm (L := k * ch) (H := (k + 1) * ch) (M := (k + 1) * ch) rfl rfl rfl rfl rfl rfl rfl rfl (by omega) (by omega) (by omega) ?_
    rw [show (k + 1) * ch - k * ch = ch by omega]
    refine s_yield rfl rfl rfl rfl (by repeat (first | exact Take.all | apply Take.skip)) (hY1) ?_
    rintro v m' (⟨rfl, hm'⟩ | ⟨rfl, hm'⟩)
    ·simp only [Qs]
     refine Zp rfl rfl (WpL.nil (QW rfl (Wp.skip (Qa (Qc rfl rfl (Qn rfl rfl (by rfl) ?_))))))
     refine QA rfl rfl rfl (Qo (by omega) (by omega)) ?_
     refine Qd rfl rfl (WpL.nil (Qq (⟨k + 1, m'⟩ : NmX) ?_ ?_ (by ((repeat (first | exact Top.refl | refine Top.push rfl ?_)); done)) (FrLe.cons (by exact congrArg (fun x => some (Value.int .i64 x)) (by rw [Vo]; push_cast; rfl)) FrLe.nil) ?_))
     ·exact ⟨by simp only; omega, hm'⟩
     ·simp only; omega
     ·exact Ent.refl _
    ·simp only [Qs]
     refine Zp rfl rfl (WpL.nil (Xn rfl (Qh ?_)))
     apply RetQ.mk
     ·exact (Yi rfl)
     ·exact ⟨m', .inr ⟨_, hlt, hm'⟩, rfl⟩
     ·exact Ent.refl _
  ·refine QP ?_
   apply Zh
   ·exact (Yi rfl)
   ·have hke : k = W := by
     rcases Nat.lt_or_ge k W with h | h
     ·exfalso; have h9 := Nat.mul_le_mul_right ch (show k + 1 ≤ W from h); rw [Vo] at h9; omega
     ·omega
    rw [hke] at hJ
    exact ⟨m1, .inl hJ, rfl⟩
   ·exact Ent.refl _


theorem chunk_iter (a : Option Addr) (c N ch W : Nat) (hch : 1 ≤ ch) (hN : N = W * ch) (hNc : N ≤ c) (hNb : N ≤ 1000000000) (gs gn : Nat) :
    Iter Tryz.prog 204 [.pointer (some ⟨gs, 0, none⟩), .pointer (some ⟨gn, 0, none⟩)] (fun k : Nat => [.slice (sla a (k * ch) ((k + 1) * ch) 1) ch ch]) (List.range W) [QK gs [.slice a N c] 26, QK gn [.int .i64 (ch : Int)] 3] [QK gs [.slice a N c] 26, QK gn [.int .i64 (ch : Int)] 3] := by
  intro y J Jx hY m h0
  have hl : (List.range W).length = W := List.length_range
  rw [hl]
  have h := chunkF_spec a c N ch W hch hN hNc hNb gs gn y J Jx (fun k hk m hJ => by have := hY k (by rw [hl]; exact hk) m hJ; simpa using this) m h0
  exact h.mono fun v l hv => ⟨l, by obtain ⟨m', hm, rfl⟩ := hv; exact ⟨m', hm, rfl⟩, Ent.refl _⟩

theorem chunk_spec (a : Option Addr) (c N ch : Nat) (hch : 1 ≤ ch) : Fn Tryz.prog 195 #[.slice a N c, .int .i64 (ch : Int)] [] (fun v l => ∃ gs gn, v = .func (.func 204) #[] #[.pointer (some ⟨gs, 0, none⟩), .pointer (some ⟨gn, 0, none⟩)] ∧ l = [QK gs [.slice a N c] 26, QK gn [.int .i64 (ch : Int)] 3]) := by
 refine Ql (vs := [.slice a N c, .int .i64 (ch : Int)]) Tryz.func195 rfl Tryz.ntmps195 rfl (Qb (Qa (Q2 rfl rfl rfl ?_)))
 intro g1
 refine Q2 rfl rfl rfl ?_
 intro g2
 refine Qd rfl rfl (WpL.nil (Qb (Qb (Qa (Qn rfl rfl (by rfl) ?_)))))
 refine Q8 rfl rfl rfl (WpL.nil (Qz rfl (by omega) ?_))
 refine Wp.skip (Qb (Qa (s_mkf rfl (fun a hh => Ys hh _ _ rfl) ?_)))
 refine Qd rfl rfl (WpL.nil (Qh ?_))
 apply RetQ.mk
 ·exact (Res.one rfl rfl)
 ·exact ⟨_, _, rfl, rfl⟩
 ·exact Take.ent' (by repeat' constructor)

end Go.Proofs.YtggamdlpiejbiaaGreat
namespace Go.Proofs.YtggamdlpiejbiaaGreat
open Go.RowKit Go.Shelf


def RawH (K W H M : Int) : Prop := XG K W H M ∧ 4 ≤ K
theorem RawH.bd {K W H M : Int} (h : RawH K W H M) : (4 ≤ K ∧ K ≤ 6) ∧ (1 ≤ W ∧ W ≤ 4096) ∧ (1 ≤ H ∧ H ≤ 65536) ∧ (1 ≤ M ∧ M ≤ 65535) ∧ (K = 4 → M = 1) := by
  obtain ⟨h1, h2⟩ := h
  unfold XG at h1
  omega
theorem Yk (K : Int) : QR K = 1 ∨ QR K = 3 := by unfold QR; split <;> simp
theorem XB {K : Int} {W w : Nat} (hw : w = 1 ∨ w = 2) (h1 : 1 ≤ W) (h2 : W ≤ 4096) : 1 ≤ QE K W w ∧ QE K W w ≤ 24576 := by
  have hch := Yk K
  unfold QE
  split
  · omega
  · rcases hch with e | e <;> rw [e] <;> rcases hw with rfl | rfl <;> simp <;> omega
theorem strd_int {K : Int} {W w : Nat} (h : K ≠ 4) : ((QE K W w : Nat) : Int) = (W : Int) * QR K * (w : Int) := by
  have hch := Yk K
  unfold QE
  rw [if_neg h]
  push_cast
  rw [Int.toNat_of_nonneg (by omega)]

theorem Zd (K W H M : Int) : Fn Tryz.prog 145 #[.agg #[.int .i64 K, .int .i64 W, .int .i64 H, .int .i64 M]] [] (fun v l => v = .int .i64 ((Qg M : Nat) : Int) ∧ l = []) := by
 refine Ql (vs := [.agg #[.int .i64 K, .int .i64 W, .int .i64 H, .int .i64 M]]) Tryz.func145 rfl Tryz.ntmps145 rfl (Qb (Qa (Q2 rfl rfl rfl ?_)))
 intro g1
 refine Qd rfl rfl (WpL.nil (Qb (Qb (Qa (Qk (o2 := 3) rfl rfl rfl (Qn rfl rfl (by rfl) ?_))))))
 refine XU rfl rfl rfl (WpL.nil (Qj rfl (fun h0 => ?_) (fun h0 => ?_)))
 ·refine Qb (Qa (Qd rfl rfl (WpL.nil (Qh ?_))))
  apply RetQ.mk
  ·exact (Res.one rfl rfl)
  ·exact ⟨by unfold Qg; (rw [if_pos (by omega)]; rfl), rfl⟩
  ·exact Ent.nil _
 ·refine Wp.skip (Qb (Qa (Qd rfl rfl (WpL.nil (Qh ?_)))))
  apply RetQ.mk
  ·exact (Res.one rfl rfl)
  ·exact ⟨by unfold Qg; (rw [if_neg (by omega)]; rfl), rfl⟩
  ·exact Ent.nil _

theorem ZY (K : Int) (W : Nat) (H M : Int) (hR : RawH K (W : Int) H M) : Fn Tryz.prog 146 #[.agg #[.int .i64 K, .int .i64 (W : Int), .int .i64 H, .int .i64 M]] [] (fun v l => v = .int .i64 ((QE K W (Qg M) : Nat) : Int) ∧ l = []) := by
 have hb := hR.bd
 have hch := Yk K
 have hw := Q1 M
 have hm1 : 0 ≤ (W : Int) * QR K ∧ (W : Int) * QR K ≤ 12288 := by rcases hch with e | e <;> rw [e] <;> omega
 have hm2 : 0 ≤ (W : Int) * QR K * ((Qg M : Nat) : Int) ∧ (W : Int) * QR K * ((Qg M : Nat) : Int) ≤ 24576 := by rcases hw with e | e <;> rw [e] <;> omega
 refine Ql (vs := [.agg #[.int .i64 K, .int .i64 (W : Int), .int .i64 H, .int .i64 M]]) Tryz.func146 rfl Tryz.ntmps146 rfl (Qb (Qa (Q2 rfl rfl rfl ?_)))
 intro g1
 refine Qd rfl rfl (WpL.nil (Qb (Wp.block ?_)))
 refine Qb (Qa ?_)
 refine Qw (vs := [_, _, _, _]) rfl rfl rfl (by rfl) ?_
 refine Qi rfl rfl (by repeat' constructor) (ZM _ _ _ _) ?_
 rintro _ _ ⟨rfl, rfl⟩
 simp only [Qs]
 refine XV rfl rfl (Qd rfl rfl (WpL.nil (Qz rfl (fun hn => hn (by omega)) ?_)))
 refine Qb (Qa (Qk (o2 := 0) rfl rfl rfl (Qn rfl rfl (by rfl) ?_)))
 refine QH rfl rfl rfl (Qd rfl rfl (WpL.nil (Qj rfl (fun h1 => ?_) (fun h1 => ?_))))
 ·refine Qb (Qa (Qk (o2 := 1) rfl rfl rfl (Qn rfl rfl (by rfl) ?_)))
  refine Qi rfl rfl (by repeat' constructor) (Bytes_spec _ (by omega)) ?_
  rintro _ _ ⟨rfl, rfl⟩
  simp only [Qs]
  refine Qd rfl rfl (WpL.nil (Qh ?_))
  apply RetQ.mk
  ·exact (Res.one rfl rfl)
  ·exact ⟨by rw [show QE K W (Qg M) = (W + 7) / 8 from if_pos h1]; rfl, rfl⟩
  ·exact Ent.nil _
 ·refine Wp.skip (Qb ?_)
  apply Q9 mixed [⟨14, _, []⟩, ⟨15, _, [0]⟩, ⟨16, _, []⟩, ⟨17, _, [2]⟩, ⟨18, _, [3]⟩, ⟨19, _, [1, 4]⟩, ⟨20, _, []⟩, ⟨21, _, [6, 3]⟩, ⟨22, _, [5, 7]⟩, ⟨2, _, [8, 7, 0, 1, 2, 3, 4, 5, 6]⟩] rfl
  ·refine AllObs.mk ?_ ?_
   ·exact Qk (o2 := 1) rfl rfl rfl (Qm rfl)
   refine AllObs.mk ?_ ?_
   ·refine Qn rfl rfl (by rfl) ?_
    exact Qm rfl
   refine AllObs.mk ?_ ?_
   ·refine Qw (vs := [_, _, _, _]) rfl rfl rfl (by rfl) ?_
    exact Qm rfl
   refine AllObs.mk ?_ ?_
   ·refine Qi rfl rfl (by repeat' constructor) (XT _ _ _ _ (by omega)) ?_
    rintro _ _ ⟨rfl, rfl⟩
    simp only [Qs]
    rw [show (if K % 3 = 0 then (3 : Int) else 1) = QR K from rfl]
    exact WpL.nil ⟨rfl, rfl, rfl, by exact Ent.refl _⟩
   refine AllObs.mk ?_ ?_
   ·exact s_fv rfl rfl rfl (Qm rfl)
   refine AllObs.mk ?_ ?_
   ·refine Xv rfl rfl rfl (Qo (by omega) (by omega)) ?_
    exact Qm rfl
   refine AllObs.mk ?_ ?_
   ·refine Qw (vs := [_, _, _, _]) rfl rfl rfl (by rfl) ?_
    exact Qm rfl
   refine AllObs.mk ?_ ?_
   ·refine Qi rfl rfl (by repeat' constructor) (Zd _ _ _ _) ?_
    rintro _ _ ⟨rfl, rfl⟩
    simp only [Qs]
    exact WpL.nil ⟨rfl, rfl, rfl, by exact Ent.refl _⟩
   refine AllObs.mk ?_ ?_
   ·refine Xv rfl rfl rfl (Qo (by omega) (by omega)) ?_
    exact Qm rfl
   refine AllObs.mk ?_ ?_
   ·exact Qd rfl rfl (Qm rfl)
   exact AllObs.nil
  ·refine Qh ?_
   apply RetQ.mk
   ·exact (Res.one rfl rfl)
   ·exact ⟨by rw [strd_int h1], rfl⟩
   ·exact Ent.nil _

end Go.Proofs.YtggamdlpiejbiaaGreat
namespace Go.Proofs.YtggamdlpiejbiaaGreat
open Go.RowKit Go.Shelf

theorem ZX (K : Int) (W : Nat) (H M : Int) (hR : RawH K (W : Int) H M) : Fn Tryz.prog 124 #[.agg #[.int .i64 K, .int .i64 (W : Int), .int .i64 H, .int .i64 M]] [] (fun v l => ∃ g g2 b0, (b0 : List Int).length = QE K W (Qg M) ∧ (∀ x ∈ b0, x = 0) ∧ v = .tuple #[.pointer (some ⟨g, 0, none⟩), .int .i64 0] ∧ l = [QK g [.int .i64 K, .int .i64 (W : Int), .int .i64 H, .int .i64 M, .slice (some ⟨g2, 0, none⟩) b0.length b0.length, .int .i64 0, .int .i64 0, .int .i64 0, .int .i64 0] 198, QX 5 1 (some ⟨g2, 0, none⟩) b0.length b0.length (Xt b0)]) := by
 have hb := hR.bd
 have hch := Yk K
 have hw := Q1 M
 have hsb := XB (K := K) (W := W) hw (by omega) (by omega)
 refine Ql (vs := [.agg #[.int .i64 K, .int .i64 (W : Int), .int .i64 H, .int .i64 M]]) Tryz.func124 rfl Tryz.ntmps124 rfl (Qb (Qa (Q2 rfl rfl rfl ?_)))
 intro g1
 refine Qd rfl rfl (Qd rfl rfl (WpL.nil (Qb (Qb (Qa ?_)))))
 refine Qw (vs := [_, _, _, _]) rfl rfl rfl (by rfl) ?_
 refine Qi rfl rfl (by repeat' constructor) (May_spec _ _ _ _) ?_
 rintro _ _ ⟨rfl, rfl⟩
 simp only [Qs]
 rw [decide_eq_true hR.1]
 refine Zp rfl rfl (Qc rfl rfl (Qf rfl rfl ?_))
 refine Qw (vs := [_, _, _, _]) rfl rfl rfl (by rfl) ?_
 refine Qf rfl rfl (Qi rfl rfl (by repeat' constructor) (ZM _ _ _ _) ?_)
 rintro _ _ ⟨rfl, rfl⟩
 simp only [Qs]
 refine Qf rfl rfl (XV rfl rfl (Qt rfl rfl rfl (WpL.nil (Qz rfl (fun hn => hn (by omega)) ?_))))
 refine Wp.skip (Qb ?_)
 apply Xe (fB := [QK g1 [.int .i64 K, .int .i64 (W : Int), .int .i64 H, .int .i64 M] 98]) mixed [(3, false), (1, false)] (by kernel_rfl)
 apply Q7 [⟨0, 12, _, [], true⟩, ⟨1, 13, _, [], false⟩, ⟨2, 14, _, [1], false⟩] [] [1, 2] [16, 17, 2, 3, 12] (.inl ⟨_, by repeat' constructor⟩) rfl rfl rfl (by kernel_rfl) rfl rfl rfl
 ·refine QD rfl rfl rfl rfl ?_ ?_
  ·refine Qw (vs := [_, _, _, _]) rfl rfl rfl (by rfl) ?_
   exact Qm rfl
  refine AllF.cons rfl rfl rfl rfl ?_ ?_
  ·refine Qw (vs := [_, _, _, _]) rfl rfl rfl (by rfl) ?_
   exact Qm rfl
  refine AllF.cons rfl rfl rfl rfl ?_ ?_
  ·refine Qi rfl rfl (by repeat' constructor) (ZY _ _ _ _ hR) ?_
   rintro _ _ ⟨rfl, rfl⟩
   simp only [Qs]
   exact WpL.nil ⟨rfl, rfl, rfl, by exact Ent.refl _⟩
  exact AllF.nil
 ·refine s_mko (QE K W (Qg M)) rfl rfl rfl (by omega) (by omega) rfl ?_
  intro gB
  rw [u8s_zero]
  refine WpL.nil ⟨rfl, rfl, ?_⟩
  apply Q7 [⟨4, 16, _, [0, 3], false⟩] [0] [0, 4] [2, 3] (.inl ⟨_, by repeat' constructor⟩) rfl rfl rfl (by kernel_rfl) rfl rfl rfl
  ·refine AllF.cons rfl rfl rfl rfl ?_ ?_
   ·refine Xu rfl rfl ?_
    exact Qm rfl
   exact AllF.nil
  ·refine Q2 rfl rfl rfl ?_
   intro g2
   refine WpL.nil ⟨rfl, rfl, ?_⟩
   apply GoR.nil [⟨6, 2, _, [0, 1, 2, 3, 4, 5], false⟩, ⟨7, 3, _, [0, 1, 2, 3, 4, 5, 6], false⟩] (.inr rfl) rfl rfl
   ·refine AllF.cons rfl rfl rfl rfl ?_ ?_
    ·exact Qd rfl rfl (Qm rfl)
    refine AllF.cons rfl rfl rfl rfl ?_ ?_
    ·exact Qd rfl rfl (Qm rfl)
    exact AllF.nil
   ·refine Qh ?_
    obtain ⟨b0, hb0e, hb0l⟩ : ∃ b0 : List Int, b0 = List.replicate (QE K W (Qg M)) 0 ∧ b0.length = QE K W (Qg M) := ⟨_, rfl, by simp⟩
    rw [← hb0e, ← hb0l]
    apply RetQ.mk
    ·exact (QM rfl rfl rfl)
    ·exact ⟨_, gB, b0, rfl, fun x hx => by rw [hb0e] at hx; exact (List.mem_replicate.1 hx).2, rfl, rfl⟩
    ·exact Take.ent' (by repeat' constructor)

theorem RawSample_spec (K : Int) (W : Nat) (H M : Int) (_hR : RawH K (W : Int) H M) (g : Nat) (a1 : Option Addr) (c1 : Nat) (bs : List Int) (hbs : ∀ x ∈ bs, 0 ≤ x ∧ x ≤ 255) (hbl : bs.length ≤ 100000) (n rows last e : Int) (i : Nat) (hi : (i + 1) * Qg M ≤ bs.length) : Fn Tryz.prog 167 #[.pointer (some ⟨g, 0, none⟩), .int .i64 (i : Int)] [QK g [.int .i64 K, .int .i64 (W : Int), .int .i64 H, .int .i64 M, .slice a1 bs.length c1, .int .i64 n, .int .i64 rows, .int .i64 last, .int .i64 e] 198, QX 5 1 a1 c1 bs.length (Xt bs)] (fun v l => v = .int .i64 (Xx (Qg M) bs i) ∧ l = [QK g [.int .i64 K, .int .i64 (W : Int), .int .i64 H, .int .i64 M, .slice a1 bs.length c1, .int .i64 n, .int .i64 rows, .int .i64 last, .int .i64 e] 198, QX 5 1 a1 c1 bs.length (Xt bs)]) := by
 have hw := Q1 M
 refine Ql (vs := [.pointer (some ⟨g, 0, none⟩), .int .i64 (i : Int)]) Tryz.func167 rfl Tryz.ntmps167 rfl ?_
 refine Qb (Qa (Qd rfl rfl (WpL.nil (Qb (Qb (Qa (Qc rfl rfl (Qy rfl rfl (Qk (o2 := 0) rfl rfl rfl ?_)))))))))
 refine Qw (vs := [_, _, _, _]) rfl rfl rfl (by rfl) ?_
 refine Qi rfl rfl (by repeat' constructor) (Zd _ _ _ _) ?_
 rintro _ _ ⟨rfl, rfl⟩
 simp only [Qs]
 refine QH rfl rfl rfl (WpL.nil (Qj rfl (fun h0 => ?_) (fun h0 => ?_)))
 ·have hw1 : Qg M = 1 := by omega
  rw [hw1] at hi
  have hlt : i < bs.length := by omega
  have hx := hbs _ (List.getElem_mem hlt)
  refine Qb (Qa (Qc rfl rfl (Qy rfl rfl (Qk (o2 := 4) rfl rfl rfl (Qn rfl rfl (by rfl) ?_)))))
  refine Qc rfl rfl (Xg i rfl rfl rfl Q0 (by exact Take.ent' (by repeat' constructor)) rfl (by omega) (by rw [Xi]; omega) ?_)
  refine Xk rfl rfl Q0 (by exact Take.ent' (by repeat' constructor)) (YW bs hlt) ?_
  refine XY rfl Tryz.underlying5 rfl (Qo (by omega) (by omega)) ?_
  refine Qd rfl rfl (WpL.nil (Qh ?_))
  apply RetQ.mk
  ·exact (Res.one rfl rfl)
  ·exact ⟨by rw [hw1]; unfold Xx; rw [if_pos rfl, List.getElem?_eq_getElem hlt]; rfl, rfl⟩
  ·exact Ent.refl _
 ·have hw2 : Qg M = 2 := by omega
  rw [hw2] at hi
  have hlt : 2 * i < bs.length := by omega
  have hlt2 : 2 * i + 1 < bs.length := by omega
  have hx := hbs _ (List.getElem_mem hlt)
  have hx2 := hbs _ (List.getElem_mem hlt2)
  refine Wp.skip (Qb ?_)
  apply Q9 mixed [⟨19, _, []⟩, ⟨20, _, [0]⟩, ⟨21, _, [1]⟩, ⟨22, _, [2]⟩, ⟨23, _, []⟩, ⟨24, _, [4]⟩, ⟨25, _, [3, 5]⟩, ⟨26, _, [6]⟩, ⟨27, _, [7]⟩, ⟨28, _, [8]⟩, ⟨29, _, []⟩, ⟨30, _, [10]⟩, ⟨31, _, [11]⟩, ⟨32, _, [12]⟩, ⟨33, _, []⟩, ⟨34, _, [14]⟩, ⟨35, _, [15]⟩, ⟨36, _, [13, 16]⟩, ⟨37, _, [17]⟩, ⟨38, _, [18]⟩, ⟨39, _, [9, 19]⟩, ⟨4, _, [20, 0, 1, 2, 3, 4, 5, 6, 7, 8, 9, 10, 11, 12, 13, 14, 15, 16, 17, 18, 19]⟩] rfl
  ·refine AllObs.mk ?_ ?_
   ·exact Qc rfl rfl (Qm rfl)
   refine AllObs.mk ?_ ?_
   ·exact Qy rfl rfl (Qm rfl)
   refine AllObs.mk ?_ ?_
   ·exact Qk (o2 := 4) rfl rfl rfl (Qm rfl)
   refine AllObs.mk ?_ ?_
   ·refine Qn rfl rfl (by rfl) ?_
    exact Qm rfl
   refine AllObs.mk ?_ ?_
   ·exact Qc rfl rfl (Qm rfl)
   refine AllObs.mk ?_ ?_
   ·refine Xv rfl rfl rfl (Qo (by omega) (by omega)) ?_
    exact Qm rfl
   refine AllObs.mk ?_ ?_
   ·refine Xg (2 * i) rfl rfl rfl Q0 (by exact Take.ent' (by repeat' constructor)) (by omega) (by omega) (by rw [Xi]; omega) ?_
    exact Qm rfl
   refine AllObs.mk ?_ ?_
   ·refine Xk rfl rfl Q0 (by exact Take.ent' (by repeat' constructor)) (YW bs hlt) ?_
    exact Qm rfl
   refine AllObs.mk ?_ ?_
   ·refine XY rfl Tryz.underlying5 rfl (Qo (by omega) (by omega)) ?_
    exact Qm rfl
   refine AllObs.mk ?_ ?_
   ·refine s_shl 256 rfl rfl rfl (by decide) (Qo (by omega) (by omega)) ?_
    exact Qm rfl
   refine AllObs.mk ?_ ?_
   ·exact Qc rfl rfl (Qm rfl)
   refine AllObs.mk ?_ ?_
   ·exact Qy rfl rfl (Qm rfl)
   refine AllObs.mk ?_ ?_
   ·exact Qk (o2 := 4) rfl rfl rfl (Qm rfl)
   refine AllObs.mk ?_ ?_
   ·refine Qn rfl rfl (by rfl) ?_
    exact Qm rfl
   refine AllObs.mk ?_ ?_
   ·exact Qc rfl rfl (Qm rfl)
   refine AllObs.mk ?_ ?_
   ·refine Xv rfl rfl rfl (Qo (by omega) (by omega)) ?_
    exact Qm rfl
   refine AllObs.mk ?_ ?_
   ·refine QA rfl rfl rfl (Qo (by omega) (by omega)) ?_
    exact Qm rfl
   refine AllObs.mk ?_ ?_
   ·refine Xg (2 * i + 1) rfl rfl rfl Q0 (by exact Take.ent' (by repeat' constructor)) (by omega) (by omega) (by rw [Xi]; omega) ?_
    exact Qm rfl
   refine AllObs.mk ?_ ?_
   ·refine Xk rfl rfl Q0 (by exact Take.ent' (by repeat' constructor)) (YW bs hlt2) ?_
    exact Qm rfl
   refine AllObs.mk ?_ ?_
   ·refine XY rfl Tryz.underlying5 rfl (Qo (by omega) (by omega)) ?_
    exact Qm rfl
   refine AllObs.mk ?_ ?_
   ·refine s_or (bs[2 * i]'hlt) 8 rfl rfl rfl rfl hx.1 (by simp only [IntKind.bits]; omega) hx2.1 (by omega) (by decide) (Qo (by omega) (by omega)) ?_
    exact Qm rfl
   refine AllObs.mk ?_ ?_
   ·exact Qd rfl rfl (Qm rfl)
   exact AllObs.nil
  ·refine Qh ?_
   apply RetQ.mk
   ·exact (Res.one rfl rfl)
   ·exact ⟨by rw [hw2]; unfold Xx; rw [if_neg (by decide), List.getElem?_eq_getElem hlt, List.getElem?_eq_getElem hlt2]; rfl, rfl⟩
   ·exact Ent.refl _

end Go.Proofs.YtggamdlpiejbiaaGreat
