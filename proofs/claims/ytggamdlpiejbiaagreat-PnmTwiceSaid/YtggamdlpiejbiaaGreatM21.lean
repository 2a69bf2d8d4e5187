/- Walks and plain laws, a part of the proof of PnmTwice: every input that the law's guards let in, no condition beside. -/
import Derived.Test.YtggamdlpiejbiaaGreatM20
namespace Go.Proofs.YtggamdlpiejbiaaGreat
open Go.RowKit Go.Shelf


theorem raw_size (W H w : Nat) (K : Int) (h : ¬ K = 4) (hK : 4 ≤ K ∧ K ≤ 6) : Qy K W w * H = W * H * (if K = 6 then 3 else 1) * w := by
  unfold Qy QT
  rw [if_neg h]
  obtain rfl | rfl : K = 5 ∨ K = 6 := by omega
  · rw [if_neg (by decide), if_neg (by decide)]; simp only [show (1 : Int).toNat = 1 from rfl]; ac_rfl
  · rw [if_pos (by decide), if_pos rfl]; simp only [show (3 : Int).toNat = 3 from rfl]; ac_rfl
theorem Vm (K W H M : Int) : Fn Tryz.prog 122 #[.agg #[.int .i64 K, .int .i64 W, .int .i64 H, .int .i64 M]] [] (fun v l => v = .int .i64 ((Qi M : Nat) : Int) ∧ l = []) := by
 refine Qo (vs := [.agg #[.int .i64 K, .int .i64 W, .int .i64 H, .int .i64 M]]) Tryz.func122 rfl Tryz.ntmps122 rfl (Qb (Qa (Xf rfl rfl rfl ?_)))
 intro g1
 refine Qd rfl rfl (WpL.nil (Qb (Qb (Qa (Qj (o2 := 3) rfl rfl rfl (Qm rfl rfl (by rfl) ?_))))))
 refine XJ rfl rfl rfl (WpL.nil (Qh rfl (fun h0 => ?_) (fun h0 => ?_)))
 ·refine Qb (Qa (Qd rfl rfl (WpL.nil (Qg ?_))))
  apply RetQ.mk
  ·exact (Res.one rfl rfl)
  ·exact ⟨by rw [show Qi M = 2 from if_pos h0]; rfl, rfl⟩
  ·exact Ent.nil _
 ·refine Wp.skip (Qb (Qa (Qd rfl rfl (WpL.nil (Qg ?_)))))
  apply RetQ.mk
  ·exact (Res.one rfl rfl)
  ·exact ⟨by rw [show Qi M = 1 from if_neg h0]; rfl, rfl⟩
  ·exact Ent.nil _

theorem rSize_spec (K : Int) (W H : Nat) (M : Int) (hR : RawH K (W : Int) (H : Int) M) : Fn Tryz.prog 82 #[.agg #[.int .i64 K, .int .i64 (W : Int), .int .i64 (H : Int), .int .i64 M]] [] (fun v l => v = .int .i64 ((Qy K W (Qi M) * H : Nat) : Int) ∧ l = []) := by
 have hb := hR.bd
 have hch := YV K
 have hw := Q7 M
 have hsb := X1 (K := K) (W := W) hw (by omega) (by omega)
 have hWH : W * H ≤ 4096 * 65536 := Nat.mul_le_mul (by omega) (by omega)
 have hrs := fun h4 => raw_size W H (Qi M) K h4 hb.1
 refine Qo (vs := [.agg #[.int .i64 K, .int .i64 (W : Int), .int .i64 (H : Int), .int .i64 M]]) Tryz.func82 rfl Tryz.ntmps82 rfl (Qb (Qa (Xf rfl rfl rfl ?_)))
 intro g1
 refine Qd rfl rfl (WpL.nil (Qb (Qb (Qa (Qj (o2 := 0) rfl rfl rfl (Qm rfl rfl (by rfl) ?_))))))
 refine Xc rfl rfl rfl (WpL.nil (QA rfl (by omega) ?_))
 refine Wp.skip (Qb (Qb (Qa (Qj (o2 := 0) rfl rfl rfl (Qm rfl rfl (by rfl) ?_)))))
 refine QJ rfl rfl rfl (WpL.nil (Qh rfl (fun h1 => ?_) (fun h1 => ?_)))
 ·refine Qb (Qa (Qj (o2 := 1) rfl rfl rfl (Qm rfl rfl (by rfl) ?_)))
  refine Y2 rfl rfl rfl (by omega) (by omega) (Qp (by omega) (by omega)) ?_
  refine Qd rfl rfl (WpL.nil (Qb (Qb (Qa (Qj (o2 := 1) rfl rfl rfl (Qm rfl rfl (by rfl) ?_))))))
  refine YO rfl rfl rfl (by omega) (by omega) ?_
  refine XJ rfl rfl rfl (WpL.nil (Qh rfl (fun h2 => ?_) (fun h2 => ?_)))
  ·refine Qa (Qc rfl rfl (Qx rfl rfl rfl (Qp (by omega) (by omega)) ?_))
   refine Qd rfl rfl (WpL.nil (Qb (Qa (Qc rfl rfl (Qj (o2 := 2) rfl rfl rfl (Qm rfl rfl (by rfl) ?_))))))
   have hq : ((W : Int) / 8 + (if (W : Int) % 8 > 0 then 1 else 0)) = (((W + 7) / 8 : Nat) : Int) := by split <;> omega
   have h8 : (W + 7) / 8 * H ≤ 4096 * 65536 := Nat.mul_le_mul (by omega) (by omega)
   have hst4 : Qy K W (Qi M) = (W + 7) / 8 := if_pos h1
   rw [if_pos h2] at hq
   try simp only [Int.add_zero] at hq
   rw [hq]
   have h9 : (((W + 7) / 8 : Nat) : Int) * (H : Int) = (((W + 7) / 8 * H : Nat) : Int) := by push_cast; rfl
   refine XQ rfl rfl rfl (Qp (by rw [h9]; omega) (by rw [h9]; omega)) ?_
   rw [h9, ← hst4]
   refine Qd rfl rfl (WpL.nil (Qg ?_))
   apply RetQ.mk
   ·exact (Res.one rfl rfl)
   ·exact ⟨rfl, rfl⟩
   ·exact Ent.nil _
  ·refine Wp.skip (Qb (Qa (Qc rfl rfl (Qj (o2 := 2) rfl rfl rfl (Qm rfl rfl (by rfl) ?_)))))
   have hq : ((W : Int) / 8 + (if (W : Int) % 8 > 0 then 1 else 0)) = (((W + 7) / 8 : Nat) : Int) := by split <;> omega
   have h8 : (W + 7) / 8 * H ≤ 4096 * 65536 := Nat.mul_le_mul (by omega) (by omega)
   have hst4 : Qy K W (Qi M) = (W + 7) / 8 := if_pos h1
   rw [if_neg h2] at hq
   try simp only [Int.add_zero] at hq
   rw [hq]
   have h9 : (((W + 7) / 8 : Nat) : Int) * (H : Int) = (((W + 7) / 8 * H : Nat) : Int) := by push_cast; rfl
   refine XQ rfl rfl rfl (Qp (by rw [h9]; omega) (by rw [h9]; omega)) ?_
   rw [h9, ← hst4]
   refine Qd rfl rfl (WpL.nil (Qg ?_))
   apply RetQ.mk
   ·exact (Res.one rfl rfl)
   ·exact ⟨rfl, rfl⟩
   ·exact Ent.nil _
 ·refine Wp.skip (Qb (Qa (Qj (o2 := 1) rfl rfl rfl (Qm rfl rfl (by rfl) ?_))))
  refine Qj (o2 := 2) rfl rfl rfl (Qm rfl rfl (by rfl) ?_)
  have h9 : (W : Int) * (H : Int) = ((W * H : Nat) : Int) := by push_cast; rfl
  refine XQ rfl rfl rfl (Qp (by rw [h9]; omega) (by rw [h9]; omega)) ?_
  rw [h9]
  refine Qd rfl rfl (WpL.nil (Qb (Qb (Qa (Qj (o2 := 0) rfl rfl rfl (Qm rfl rfl (by rfl) ?_))))))
  refine QJ rfl rfl rfl (WpL.nil (Qh rfl (fun h3 => ?_) (fun h3 => ?_)))
  ·refine Qa (Qc rfl rfl (XQ rfl rfl rfl (Qp (by omega) (by omega)) ?_))
   refine Qd rfl rfl (WpL.nil (Qb (Qb (Qa (Qj (o2 := 3) rfl rfl rfl (Qm rfl rfl (by rfl) ?_))))))
   refine XJ rfl rfl rfl (WpL.nil (Qh rfl (fun h4 => ?_) (fun h4 => ?_)))
   ·refine Qa (Qc rfl rfl (XQ rfl rfl rfl (Qp (by omega) (by omega)) ?_))
    refine Qd rfl rfl (WpL.nil (Qb (Qa (Qc rfl rfl (Qd rfl rfl (WpL.nil (Qg ?_)))))))
    apply RetQ.mk
    ·exact (Res.one rfl rfl)
    ·have e := hrs h1
     rw [if_pos h3, show Qi M = 2 from if_pos h4] at e
     rw [show Qi M = 2 from if_pos h4]
     rw [e]
     exact ⟨congrArg (Value.int .i64) (by push_cast; generalize (W : Int) * (H : Int) = z; omega), rfl⟩
    ·exact Ent.nil _
   ·refine Wp.skip (Qb (Qa (Qc rfl rfl (Qd rfl rfl (WpL.nil (Qg ?_))))))
    apply RetQ.mk
    ·exact (Res.one rfl rfl)
    ·have e := hrs h1
     rw [if_pos h3, show Qi M = 1 from if_neg h4] at e
     rw [show Qi M = 1 from if_neg h4]
     rw [e]
     exact ⟨congrArg (Value.int .i64) (by push_cast; generalize (W : Int) * (H : Int) = z; omega), rfl⟩
    ·exact Ent.nil _
  ·refine Wp.skip (Qb (Qb (Qa (Qj (o2 := 3) rfl rfl rfl (Qm rfl rfl (by rfl) ?_)))))
   refine XJ rfl rfl rfl (WpL.nil (Qh rfl (fun h4 => ?_) (fun h4 => ?_)))
   ·refine Qa (Qc rfl rfl (XQ rfl rfl rfl (Qp (by omega) (by omega)) ?_))
    refine Qd rfl rfl (WpL.nil (Qb (Qa (Qc rfl rfl (Qd rfl rfl (WpL.nil (Qg ?_)))))))
    apply RetQ.mk
    ·exact (Res.one rfl rfl)
    ·have e := hrs h1
     rw [if_neg h3, show Qi M = 2 from if_pos h4] at e
     rw [show Qi M = 2 from if_pos h4]
     rw [e]
     exact ⟨congrArg (Value.int .i64) (by push_cast; generalize (W : Int) * (H : Int) = z; omega), rfl⟩
    ·exact Ent.nil _
   ·refine Wp.skip (Qb (Qa (Qc rfl rfl (Qd rfl rfl (WpL.nil (Qg ?_))))))
    apply RetQ.mk
    ·exact (Res.one rfl rfl)
    ·have e := hrs h1
     rw [if_neg h3, show Qi M = 1 from if_neg h4] at e
     rw [show Qi M = 1 from if_neg h4]
     rw [e]
     exact ⟨congrArg (Value.int .i64) (by push_cast; generalize (W : Int) * (H : Int) = z; omega), rfl⟩
    ·exact Ent.nil _

theorem rStride_spec (K : Int) (W H : Nat) (M : Int) (hR : RawH K (W : Int) (H : Int) M) : Fn Tryz.prog 108 #[.agg #[.int .i64 K, .int .i64 (W : Int), .int .i64 (H : Int), .int .i64 M]] [] (fun v l => v = .int .i64 ((Qy K W (Qi M) : Nat) : Int) ∧ l = []) := by
 have hb := hR.bd
 have hch := YV K
 have hw := Q7 M
 have hsb := X1 (K := K) (W := W) hw (by omega) (by omega)
 have hSH : Qy K W (Qi M) * H ≤ 24576 * 65536 := Nat.mul_le_mul hsb.2 (by omega)
 have hdv : ((Qy K W (Qi M) * H : Nat) : Int) / (H : Int) = ((Qy K W (Qi M) : Nat) : Int) := by rw [← Int.natCast_ediv, Nat.mul_div_cancel _ (by omega)]
 refine Qo (vs := [.agg #[.int .i64 K, .int .i64 (W : Int), .int .i64 (H : Int), .int .i64 M]]) Tryz.func108 rfl Tryz.ntmps108 rfl (Qb (Qa (Xf rfl rfl rfl ?_)))
 intro g1
 refine Qd rfl rfl (WpL.nil (Qb (Qb (Qa (Qj (o2 := 0) rfl rfl rfl (Qm rfl rfl (by rfl) ?_))))))
 refine Xc rfl rfl rfl (WpL.nil (QA rfl (by omega) ?_))
 refine Wp.skip (Qb ?_)
 apply Q3 mixed [⟨6, _, []⟩, ⟨7, _, [0]⟩, ⟨8, _, []⟩, ⟨9, _, [2]⟩, ⟨10, _, [1, 3]⟩, ⟨2, _, [4, 1, 0, 2, 3]⟩] rfl
 ·refine AllObs.mk ?_ ?_
  ·refine Qz (vs := [_, _, _, _]) rfl rfl rfl (by rfl) ?_
   exact Qn rfl
  refine AllObs.mk ?_ ?_
  ·refine Qk rfl rfl (by repeat' constructor) (rSize_spec K W H M hR) ?_
   rintro _ _ ⟨rfl, rfl⟩
   simp only [Qv]
   exact WpL.nil ⟨rfl, rfl, rfl, by exact Ent.refl _⟩
  refine AllObs.mk ?_ ?_
  ·exact Qj (o2 := 2) rfl rfl rfl (Qn rfl)
  refine AllObs.mk ?_ ?_
  ·refine Qm rfl rfl (by rfl) ?_
   exact Qn rfl
  refine AllObs.mk ?_ ?_
  ·refine Y2 rfl rfl rfl (by omega) (by omega) (Qp (by rw [hdv]; omega) (by rw [hdv]; omega)) ?_
   rw [hdv]
   exact Qn rfl
  refine AllObs.mk ?_ ?_
  ·exact Qd rfl rfl (Qn rfl)
  exact AllObs.nil
 ·refine Qg ?_
  apply RetQ.mk
  ·exact (Res.one rfl rfl)
  ·exact ⟨rfl, rfl⟩
  ·exact Ent.nil _

end Go.Proofs.YtggamdlpiejbiaaGreat
namespace Go.Proofs.YtggamdlpiejbiaaGreat
open Go.RowKit Go.Shelf

theorem rSamples_1 (A0 : HP) (a0 : Option Addr) (c0 : Nat) (bs : List Int) (hA : RdsL [A0] a0 (XY bs)) (hbs : ∀ x ∈ bs, 0 ≤ x ∧ x ≤ 255) (_hc0 : bs.length ≤ c0) (hbl : bs.length ≤ 100000000000) (K W H M : Int) (hwm : Qi M = 1) : Fn Tryz.prog 159 #[.slice a0 bs.length c0, .agg #[.int .i64 K, .int .i64 W, .int .i64 H, .int .i64 M]] [A0] (fun v l => ∃ a c, v = .slice a (Yl (Qi M) bs).length c ∧ l = [own 3 1 a c (Yl (Qi M) bs).length (Q2 (Yl (Qi M) bs)), A0]) := by
 refine Qo (vs := [.slice a0 bs.length c0, .agg #[.int .i64 K, .int .i64 W, .int .i64 H, .int .i64 M]]) Tryz.func159 rfl Tryz.ntmps159 rfl (Qb (Qa (Xf rfl rfl rfl ?_)))
 intro g1
 refine Qd rfl rfl (WpL.nil (Qb (Qa (Qd rfl rfl (WpL.nil (Qb (Qa ?_)))))))
 refine Qz (vs := [_, _, _, _]) rfl rfl rfl (by rfl) ?_
 refine Qk rfl rfl (by repeat' constructor) (Vm _ _ _ _) ?_
 rintro _ _ ⟨rfl, rfl⟩
 simp only [Qv]
 have hcast : ((Qi M : Nat) : Int) = 1 := by rw [hwm]; rfl
 rw [hcast]
 refine Qd rfl rfl (WpL.nil (Qb (Qb (Qa (Qd rfl rfl (WpL.nil (Wp.block ?_)))))))
 refine Wp.loopD (σ := SmX) (fun x => x.k ≤ bs.length / 1) [5, 7, 8, 11, 12, 13, 14, 15, 16, 17, 18, 19, 20, 21, 22, 23, 24, 25, 26, 27, 28, 29, 30, 31, 32, 33, 34, 35, 36, 37, 38, 39] (fun x => [(7, .int .i64 ((x.k : Nat) : Int)), (5, .slice x.a x.k x.c)]) (fun x => [own 3 1 x.a x.c x.k (Q2 ((Yl (Qi M) bs).take x.k)), A0]) (fun x => bs.length / 1 - x.k) ⟨0, none, 0⟩ ?_ (by repeat (first | exact FrLe.nil | refine FrLe.cons rfl ?_)) ?_ ?_
 ·exact Nat.zero_le _
 ·exact (Ent.own_nil (T := 3) (s := 1) (Ent.refl _)).trans (Take.ent' (by repeat' constructor))
 ·rintro ⟨j, a, c⟩ hj
  dsimp only at hj ⊢
  refine Qb (Qb (Qa (Qc rfl rfl (Qc rfl rfl (Qx rfl rfl rfl (Qp (by omega) (by omega)) ?_)))))
  refine Qc rfl rfl (QO rfl rfl (s_le rfl rfl rfl (WpL.nil (Qh rfl (fun h1 => ?_) (fun h1 => ?_)))))
  ·have hjl : j < bs.length / 1 := by omega
   have hlt : j < bs.length := by omega
   have hb1 := hbs _ (List.getElem_mem hlt)
   have hst := smps_take (Qi M) bs (k := j) (by rw [hwm]; exact hjl)
   refine Wp.skip (Qb (Wp.block ?_))
   refine Qb (Qa (Qc rfl rfl (Qc rfl rfl (Xs (j) rfl rfl rfl hA (by exact Take.ent' (by repeat' constructor)) rfl (by omega) (by rw [XP]; exact hlt) ?_))))
   refine Xv rfl rfl hA (by exact Take.ent' (by repeat' constructor)) (Zl bs hlt) ?_
   refine Yk rfl Tryz.underlying5 rfl (Qp (by omega) (by omega)) ?_
   refine Qd rfl rfl (WpL.nil (Qb (Qb (Qa (Qc rfl rfl (QJ rfl rfl rfl (WpL.nil (QA rfl (by decide) (Wp.skip (Qa (Qc rfl rfl (Qc rfl rfl ?_))))))))))))
   refine X7 rfl rfl rfl rfl ?_
   intro g2
   refine XC rfl rfl rfl (by repeat' constructor) (by rfl) (by rfl) (by rfl) (by rfl) (by omega) (by omega) ?_
   intro a39 c39
   rw [X3, show bs[j]'hlt = Xy (Qi M) bs j from by unfold Xy; rw [hwm]; simp [hlt], hst]
   refine Qd rfl rfl (WpL.nil (Qa (Qc rfl rfl (Qc rfl rfl (Qx rfl rfl rfl (Qp (by omega) (by omega)) ?_)))))
   refine Qd rfl rfl (WpL.nil (Qq (⟨j + 1, a39, c39⟩ : SmX) ?_ ?_ (by ((repeat (first | exact Top.refl | refine Top.push rfl ?_)); done)) (by repeat (first | exact FrLe.nil | refine FrLe.cons rfl ?_)) ?_))
   ·simp only; omega
   ·simp only; omega
   ·exact Ent.refl _
  ·refine QV (Qb (Qa (Qc rfl rfl (Qd rfl rfl (WpL.nil (Qg ?_))))))
   have hj2 : j = (Yl (Qi M) bs).length := by rw [YL, hwm]; omega
   subst hj2
   rw [List.take_length]
   apply RetQ.mk
   ·exact (Res.one rfl rfl)
   ·exact ⟨a, c, rfl, rfl⟩
   ·exact Ent.refl _

theorem rSamples_2 (A0 : HP) (a0 : Option Addr) (c0 : Nat) (bs : List Int) (hA : RdsL [A0] a0 (XY bs)) (hbs : ∀ x ∈ bs, 0 ≤ x ∧ x ≤ 255) (_hc0 : bs.length ≤ c0) (hbl : bs.length ≤ 100000000000) (K W H M : Int) (hwm : Qi M = 2) : Fn Tryz.prog 159 #[.slice a0 bs.length c0, .agg #[.int .i64 K, .int .i64 W, .int .i64 H, .int .i64 M]] [A0] (fun v l => ∃ a c, v = .slice a (Yl (Qi M) bs).length c ∧ l = [own 3 1 a c (Yl (Qi M) bs).length (Q2 (Yl (Qi M) bs)), A0]) := by
 refine Qo (vs := [.slice a0 bs.length c0, .agg #[.int .i64 K, .int .i64 W, .int .i64 H, .int .i64 M]]) Tryz.func159 rfl Tryz.ntmps159 rfl (Qb (Qa (Xf rfl rfl rfl ?_)))
 intro g1
 refine Qd rfl rfl (WpL.nil (Qb (Qa (Qd rfl rfl (WpL.nil (Qb (Qa ?_)))))))
 refine Qz (vs := [_, _, _, _]) rfl rfl rfl (by rfl) ?_
 refine Qk rfl rfl (by repeat' constructor) (Vm _ _ _ _) ?_
 rintro _ _ ⟨rfl, rfl⟩
 simp only [Qv]
 have hcast : ((Qi M : Nat) : Int) = 2 := by rw [hwm]; rfl
 rw [hcast]
 refine Qd rfl rfl (WpL.nil (Qb (Qb (Qa (Qd rfl rfl (WpL.nil (Wp.block ?_)))))))
 refine Wp.loopD (σ := SmX) (fun x => x.k ≤ bs.length / 2) [5, 7, 8, 11, 12, 13, 14, 15, 16, 17, 18, 19, 20, 21, 22, 23, 24, 25, 26, 27, 28, 29, 30, 31, 32, 33, 34, 35, 36, 37, 38, 39] (fun x => [(7, .int .i64 ((2 * x.k : Nat) : Int)), (5, .slice x.a x.k x.c)]) (fun x => [own 3 1 x.a x.c x.k (Q2 ((Yl (Qi M) bs).take x.k)), A0]) (fun x => bs.length / 2 - x.k) ⟨0, none, 0⟩ ?_ (by repeat (first | exact FrLe.nil | refine FrLe.cons rfl ?_)) ?_ ?_
 ·exact Nat.zero_le _
 ·exact (Ent.own_nil (T := 3) (s := 1) (Ent.refl _)).trans (Take.ent' (by repeat' constructor))
 ·rintro ⟨j, a, c⟩ hj
  dsimp only at hj ⊢
  refine Qb (Qb (Qa (Qc rfl rfl (Qc rfl rfl (Qx rfl rfl rfl (Qp (by omega) (by omega)) ?_)))))
  refine Qc rfl rfl (QO rfl rfl (s_le rfl rfl rfl (WpL.nil (Qh rfl (fun h1 => ?_) (fun h1 => ?_)))))
  ·have hjl : j < bs.length / 2 := by omega
   have hlt : 2 * j < bs.length := by omega
   have hb1 := hbs _ (List.getElem_mem hlt)
   have hst := smps_take (Qi M) bs (k := j) (by rw [hwm]; exact hjl)
   have hlt2 : 2 * j + 1 < bs.length := by omega
   have hb2 := hbs _ (List.getElem_mem hlt2)
   refine Wp.skip (Qb (Wp.block ?_))
   refine Qb (Qa (Qc rfl rfl (Qc rfl rfl (Xs (2 * j) rfl rfl rfl hA (by exact Take.ent' (by repeat' constructor)) rfl (by omega) (by rw [XP]; exact hlt) ?_))))
   refine Xv rfl rfl hA (by exact Take.ent' (by repeat' constructor)) (Zl bs hlt) ?_
   refine Yk rfl Tryz.underlying5 rfl (Qp (by omega) (by omega)) ?_
   refine Qd rfl rfl (WpL.nil (Qb (Qb (Qa (Qc rfl rfl (QJ rfl rfl rfl (WpL.nil (Q1 rfl (by decide) (Qa (Qc rfl rfl (XQ rfl rfl rfl (Qp (by omega) (by omega)) ?_)))))))))))
   refine Qc rfl rfl (Qc rfl rfl (Qx rfl rfl rfl (Qp (by omega) (by omega)) ?_))
   refine Xs (2 * j + 1) rfl rfl rfl hA (by exact Take.ent' (by repeat' constructor)) rfl (by omega) (by rw [XP]; omega) ?_
   refine Xv rfl rfl hA (by exact Take.ent' (by repeat' constructor)) (Zl bs (by omega)) ?_
   refine Yk rfl Tryz.underlying5 rfl (Qp (by omega) (by omega)) ?_
   refine Qx rfl rfl rfl (Qp (by omega) (by omega)) ?_
   refine Qd rfl rfl (WpL.nil (Qa (Qc rfl rfl (Qc rfl rfl ?_))))
   refine X7 rfl rfl rfl rfl ?_
   intro g2
   refine XC rfl rfl rfl (by repeat' constructor) (by rfl) (by rfl) (by rfl) (by rfl) (by omega) (by omega) ?_
   intro a39 c39
   rw [X3, show bs[2 * j]'hlt * 256 + bs[2 * j + 1]'hlt2 = Xy (Qi M) bs j from by unfold Xy; rw [hwm]; simp [hlt, hlt2], hst]
   refine Qd rfl rfl (WpL.nil (Qa (Qc rfl rfl (Qc rfl rfl (Qx rfl rfl rfl (Qp (by omega) (by omega)) ?_)))))
   refine Qd rfl rfl (WpL.nil (Qq (⟨j + 1, a39, c39⟩ : SmX) ?_ ?_ (by ((repeat (first | exact Top.refl | refine Top.push rfl ?_)); done)) (by repeat (first | exact FrLe.nil | refine FrLe.cons rfl ?_)) ?_))
   ·simp only; omega
   ·simp only; omega
   ·exact Ent.refl _
  ·refine QV (Qb (Qa (Qc rfl rfl (Qd rfl rfl (WpL.nil (Qg ?_))))))
   have hj2 : j = (Yl (Qi M) bs).length := by rw [YL, hwm]; omega
   subst hj2
   rw [List.take_length]
   apply RetQ.mk
   ·exact (Res.one rfl rfl)
   ·exact ⟨a, c, rfl, rfl⟩
   ·exact Ent.refl _


theorem ZU (A0 : HP) (a0 : Option Addr) (c0 : Nat) (bs : List Int) (hA : RdsL [A0] a0 (XY bs)) (hbs : ∀ x ∈ bs, 0 ≤ x ∧ x ≤ 255) (hc0 : bs.length ≤ c0) (hbl : bs.length ≤ 100000000000) (K W H M : Int) : Fn Tryz.prog 159 #[.slice a0 bs.length c0, .agg #[.int .i64 K, .int .i64 W, .int .i64 H, .int .i64 M]] [A0] (fun v l => ∃ a c, v = .slice a (Yl (Qi M) bs).length c ∧ l = [own 3 1 a c (Yl (Qi M) bs).length (Q2 (Yl (Qi M) bs)), A0]) := by
  rcases Q7 M with h | h
  · exact rSamples_1 A0 a0 c0 bs hA hbs hc0 hbl K W H M h
  · exact rSamples_2 A0 a0 c0 bs hA hbs hc0 hbl K W H M h

end Go.Proofs.YtggamdlpiejbiaaGreat
namespace Go.Proofs.YtggamdlpiejbiaaGreat
open Go.RowKit Go.Shelf


theorem ediv_pow_succ (b : Int) (m : Nat) : b / 2 ^ m / 2 = b / 2 ^ (m + 1) := by
  rw [Int.ediv_ediv_of_nonneg (by exact_mod_cast Nat.zero_le (2 ^ m)), Int.pow_succ]
structure BtX where
  (k : Nat) (n : Int)
theorem ubits_take (bs : List Int) {W k : Nat} (h : k < W) : (Yv bs W).take k ++ [bitAt bs k] = (Yv bs W).take (k + 1) := by
  rw [List.take_succ_eq_append_getElem (by simp [Yv]; exact h)]
  simp [Yv]
def badI (w M : Int) : List Int → Int → Int
  | [], _ => 0
  | x :: xs, i => if x > M then w * (i + 1) else badI w M xs (i + 1)
/-- The number of the byte with which a raw raster is wrong. -/
def YS (K : Int) (W H : Nat) (M : Int) (bs : List Int) : Int := if K = 4 then 0 else badI ((Qi M : Nat) : Int) M (Yl (Qi M) (bs.take (Qy K W (Qi M) * H))) 0

theorem rBytes_spec (W : Nat) (hW : 1 ≤ W ∧ W ≤ 4096) : Fn Tryz.prog 187 #[.int .i64 (W : Int)] [] (fun v l => v = .int .i64 (((W + 7) / 8 : Nat) : Int) ∧ l = []) := by
 refine Qo (vs := [.int .i64 (W : Int)]) Tryz.func187 rfl Tryz.ntmps187 rfl (Qb (Qa (Qd rfl rfl (WpL.nil (Qb (Qb (Qa (Qc rfl rfl (Xc rfl rfl rfl (Qc rfl rfl (QM (dj := 6) rfl (decide_eq_false (by omega)) ?_)))))))))))
 refine Qf rfl rfl (Qc rfl rfl (Qf rfl rfl (XJ rfl rfl rfl (Qu rfl rfl rfl (WpL.nil (QA rfl (by omega) ?_))))))
 refine Wp.skip (Qb (Qa (Qc rfl rfl (Y2 rfl rfl rfl (by omega) (by omega) (Qp (by omega) (by omega)) ?_))))
 refine Qd rfl rfl (WpL.nil (Qb (Qb (Qa (Qc rfl rfl (YO rfl rfl rfl (by omega) (by omega) ?_))))))
 refine XJ rfl rfl rfl (WpL.nil (Qh rfl (fun h1 => ?_) (fun h1 => ?_)))
 ·refine Qa (Qc rfl rfl (Qx rfl rfl rfl (Qp (by omega) (by omega)) ?_))
  refine Qd rfl rfl (WpL.nil (Qb (Qa (Qc rfl rfl (Qd rfl rfl (WpL.nil (Qg ?_)))))))
  apply RetQ.mk
  ·exact (Res.one rfl rfl)
  ·exact ⟨congrArg (Value.int .i64) (by omega), rfl⟩
  ·exact Ent.refl _
 ·refine Wp.skip (Qb (Qa (Qc rfl rfl (Qd rfl rfl (WpL.nil (Qg ?_))))))
  apply RetQ.mk
  ·exact (Res.one rfl rfl)
  ·exact ⟨congrArg (Value.int .i64) (by omega), rfl⟩
  ·exact Ent.refl _

theorem rBit_spec (A0 : HP) (a0 : Option Addr) (c0 : Nat) (bs : List Int) (hA : RdsL [A0] a0 (XY bs)) (hbs : ∀ x ∈ bs, 0 ≤ x ∧ x ≤ 255) (_hc0 : bs.length ≤ c0) (hbl : bs.length ≤ 100000000000) (i : Nat) (hi : i / 8 < bs.length) (hi2 : i ≤ 100000000) : Fn Tryz.prog 188 #[.slice a0 bs.length c0, .int .i64 (i : Int)] [A0] (fun v l => v = .int .i64 (bitAt bs i) ∧ l = [A0]) := by
 have hb := hbs _ (List.getElem_mem hi)
 obtain ⟨b, hbe⟩ : ∃ b, b = bs[i / 8]'hi := ⟨_, rfl⟩
 have hbt : bitAt bs i = b / 2 ^ (7 - i % 8) % 2 := by unfold bitAt; rw [List.getElem?_eq_getElem hi, ← hbe]; rfl
 rw [← hbe] at hb
 have hat : (XY bs)[i / 8]? = some (.int .u8 b) := by rw [hbe]; exact Zl bs hi
 refine Qo (vs := [.slice a0 bs.length c0, .int .i64 (i : Int)]) Tryz.func188 rfl Tryz.ntmps188 rfl (Qb (Qa (Qd rfl rfl (WpL.nil (Qb (Qb (Qa (Qc rfl rfl (Xc rfl rfl rfl (WpL.nil (QA rfl (by omega) ?_)))))))))))
 refine Wp.skip (Qb (Qb (Qa (Qc rfl rfl (Y2 rfl rfl rfl (by omega) (by omega) (Qp (by omega) (by omega)) ?_)))))
 refine Qc rfl rfl (QO rfl rfl (s_ge rfl rfl rfl (WpL.nil (QA rfl (by omega) ?_))))
 refine Wp.skip (Qb (Qa (Qc rfl rfl (Qc rfl rfl (Y2 rfl rfl rfl (by omega) (by omega) (Qp (by omega) (by omega)) ?_)))))
 refine Xs (i / 8) rfl rfl rfl hA (by exact Take.ent' (by repeat' constructor)) (by omega) (by omega) (by rw [XP]; exact hi) ?_
 refine Xv rfl rfl hA (by exact Take.ent' (by repeat' constructor)) (hat) ?_
 refine Yk rfl Tryz.underlying5 rfl (Qp (by omega) (by omega)) ?_
 refine Qd rfl rfl (WpL.nil (Qb (Qb (Qa (Qc rfl rfl (YO rfl rfl rfl (by omega) (by omega) ?_))))))
 rw [show (i : Int) % 8 = ((i % 8 : Nat) : Int) by omega]
 refine Qd rfl rfl (WpL.nil (Wp.block ?_))
 refine Wp.loopD (σ := BtX) (fun x => i % 8 ≤ x.k ∧ x.k ≤ 7 ∧ (0 ≤ x.n ∧ x.n ≤ 255) ∧ x.n = b / 2 ^ (x.k - i % 8)) [5, 6, 22, 23, 24, 25, 26, 27] (fun x => [(6, .int .i64 (x.k : Int)), (5, .int .i64 x.n)]) (fun x => [A0]) (fun x => 7 - x.k) ⟨i % 8, b⟩ ?_ (by repeat (first | exact FrLe.nil | refine FrLe.cons rfl ?_)) ?_ ?_
 ·exact ⟨Nat.le_refl _, by simp only; omega, hb, by simp⟩
 ·exact Ent.refl _
 ·rintro ⟨k, m⟩ ⟨hk1, hk2, hm, hmb⟩
  dsimp only at hk1 hk2 hm hmb ⊢
  refine Qb (Qb (Qa (Qc rfl rfl (Xc rfl rfl rfl (WpL.nil (Qh rfl (fun h3 => ?_) (fun h3 => ?_)))))))
  ·refine Wp.skip (Qb (Wp.block ?_))
   refine Qa (Qc rfl rfl (Y2 rfl rfl rfl (by omega) (by omega) (Qp (by omega) (by omega)) ?_))
   refine Qd rfl rfl (WpL.nil (Qa (Qc rfl rfl (Qx rfl rfl rfl (Qp (by omega) (by omega)) ?_))))
   refine Qd rfl rfl (WpL.nil (Qq (⟨k + 1, m / 2⟩ : BtX) ?_ ?_ (by ((repeat (first | exact Top.refl | refine Top.push rfl ?_)); done)) (by repeat (first | exact FrLe.nil | refine FrLe.cons rfl ?_)) ?_))
   ·exact ⟨by simp only; omega, by simp only; omega, by simp only; omega, by simp only; rw [hmb, ediv_pow_succ, show k + 1 - i % 8 = k - i % 8 + 1 by omega]⟩
   ·simp only; omega
   ·exact Ent.refl _
  ·refine QV (Qb (Qa (Qc rfl rfl (YO rfl rfl rfl (by omega) (by omega) ?_))))
   refine Qd rfl rfl (WpL.nil (Qg ?_))
   apply RetQ.mk
   ·exact (Res.one rfl rfl)
   ·exact ⟨by rw [hbt, hmb, show k = 7 by omega], rfl⟩
   ·exact Ent.refl _

theorem rUnpackB_spec (A0 : HP) (a0 : Option Addr) (c0 : Nat) (bs : List Int) (hA : RdsL [A0] a0 (XY bs)) (hbs : ∀ x ∈ bs, 0 ≤ x ∧ x ≤ 255) (hc0 : bs.length ≤ c0) (hbl : bs.length ≤ 100000000000) (W : Nat) (hW : 1 ≤ W ∧ W ≤ 4096) (hn : (W + 7) / 8 ≤ bs.length) : Fn Tryz.prog 160 #[.slice a0 bs.length c0, .int .i64 (W : Int)] [A0] (fun v l => ∃ a c, v = .tuple #[.slice a W c, .int .i64 0] ∧ l = [own 3 1 a c W (Q2 (Yv bs W)), A0]) := by
 refine Qo (vs := [.slice a0 bs.length c0, .int .i64 (W : Int)]) Tryz.func160 rfl Tryz.ntmps160 rfl (Qb (Qa (Qd rfl rfl (Qd rfl rfl (WpL.nil (Qb (Qa (Qc rfl rfl (Qk rfl rfl (by repeat' constructor) (rBytes_spec W hW) ?_)))))))))
 rintro _ _ ⟨rfl, rfl⟩
 simp only [Qv]
 refine Qd rfl rfl (WpL.nil (Qb (Qb (Qa (Qc rfl rfl (QJ rfl rfl rfl (WpL.nil (QA rfl (by omega) ?_))))))))
 refine Wp.skip (Qb (Qb (Qa (Qc rfl rfl (QO rfl rfl (Qc rfl rfl (Xc rfl rfl rfl (WpL.nil (QA rfl (by omega) ?_)))))))))
 refine Wp.skip (Qb (Qa (Qd rfl rfl (WpL.nil (Qb (Qb (Qa (Qd rfl rfl (WpL.nil (Wp.block ?_))))))))))
 refine Wp.loopD (σ := SmX) (fun x => x.k ≤ W) [7, 8, 17, 18, 19, 20, 21, 22, 23, 24, 25, 26, 27] (fun x => [(8, .int .i64 (x.k : Int)), (7, .slice x.a x.k x.c)]) (fun x => [own 3 1 x.a x.c x.k (Q2 ((Yv bs W).take x.k)), A0]) (fun x => W - x.k) ⟨0, none, 0⟩ ?_ (by repeat (first | exact FrLe.nil | refine FrLe.cons rfl ?_)) ?_ ?_
 ·exact Nat.zero_le _
 ·exact (Ent.own_nil (T := 3) (s := 1) (Ent.refl _)).trans (Take.ent' (by repeat' constructor))
 ·rintro ⟨j, a, c⟩ hj
  dsimp only at hj ⊢
  refine Qb (Qb (Qa (Qc rfl rfl (Qc rfl rfl (Xc rfl rfl rfl (WpL.nil (Qh rfl (fun h3 => ?_) (fun h3 => ?_))))))))
  ·have hjW : j < W := by omega
   have hst := ubits_take bs hjW
   refine Wp.skip (Qb (Wp.block ?_))
   refine Qa (Qc rfl rfl (Qc rfl rfl (Qc rfl rfl (Qk rfl rfl (by repeat' constructor) (rBit_spec A0 a0 c0 bs hA hbs hc0 hbl j (by omega) (by omega)) ?_))))
   rintro _ _ ⟨rfl, rfl⟩
   simp only [Qv]
   refine X7 rfl rfl rfl rfl ?_
   intro g1
   refine XC rfl rfl rfl (by repeat' constructor) (by rfl) (by rfl) (by rfl) (by rfl) (by omega) (by omega) ?_
   intro a27 c27
   rw [X3, hst]
   refine Qd rfl rfl (WpL.nil (Qa (Qc rfl rfl (Qx rfl rfl rfl (Qp (by omega) (by omega)) ?_))))
   refine Qd rfl rfl (WpL.nil (Qq (⟨j + 1, a27, c27⟩ : SmX) ?_ ?_ (by ((repeat (first | exact Top.refl | refine Top.push rfl ?_)); done)) (by repeat (first | exact FrLe.nil | refine FrLe.cons rfl ?_)) ?_))
   ·simp only; omega
   ·simp only; omega
   ·exact Ent.refl _
  ·refine QV (Qb (Qa (Qc rfl rfl (Qd rfl rfl (Qd rfl rfl (WpL.nil (Qg ?_)))))))
   obtain rfl : j = W := by omega
   rw [show (Yv bs j).take j = Yv bs j from List.take_of_length_le (by simp [Yv])]
   apply RetQ.mk
   ·exact (QX rfl rfl rfl)
   ·exact ⟨a, c, rfl, rfl⟩
   ·exact Ent.refl _

theorem rBad_spec (A0 : HP) (a0 : Option Addr) (c0 : Nat) (bs : List Int) (hA : RdsL [A0] a0 (XY bs)) (hbs : ∀ x ∈ bs, 0 ≤ x ∧ x ≤ 255) (hc0 : bs.length ≤ c0) (hbl : bs.length ≤ 100000000000) (K : Int) (W H : Nat) (M : Int) (hR : RawH K (W : Int) (H : Int) M) : Fn Tryz.prog 109 #[.slice a0 bs.length c0, .agg #[.int .i64 K, .int .i64 (W : Int), .int .i64 (H : Int), .int .i64 M]] [A0] (fun v l => v = .int .i64 (YS K W H M bs) ∧ l = [A0]) := by
 have hb := hR.bd
 have hch := YV K
 have hw := Q7 M
 have hsb := X1 (K := K) (W := W) hw (by omega) (by omega)
 have hSH : Qy K W (Qi M) * H ≤ 24576 * 65536 := Nat.mul_le_mul hsb.2 (by omega)
 obtain ⟨ls, hls⟩ : ∃ ls, ls = Yl (Qi M) (bs.take (Qy K W (Qi M) * H)) := ⟨_, rfl⟩
 have hll : ls.length ≤ 24576 * 65536 := by rw [hls, YL, List.length_take]; exact Nat.le_trans (Nat.div_le_self _ _) (by omega)
 have htl : min (bs.length : Int) (((Qy K W (Qi M) * H) : Nat) : Int) = (((bs.take (Qy K W (Qi M) * H)).length : Nat) : Int) := by rw [List.length_take]; omega
 have htb : ∀ x ∈ (bs.take (Qy K W (Qi M) * H)), 0 ≤ x ∧ x ≤ 255 := fun x hx => hbs x (List.mem_of_mem_take hx)
 have hAt : RdsL [A0] a0 (XY (bs.take (Qy K W (Qi M) * H))) := by have := hA.take (Qy K W (Qi M) * H); rwa [show (XY bs).take (Qy K W (Qi M) * H) = XY (bs.take (Qy K W (Qi M) * H)) from by simp [XY, List.map_take]] at this
 refine Qo (vs := [.slice a0 bs.length c0, .agg #[.int .i64 K, .int .i64 (W : Int), .int .i64 (H : Int), .int .i64 M]]) Tryz.func109 rfl Tryz.ntmps109 rfl (Qb (Qa (Xf rfl rfl rfl ?_)))
 intro g1
 refine Qd rfl rfl (WpL.nil (Qb (Qb (Qa (Qj (o2 := 0) rfl rfl rfl (Qm rfl rfl (by rfl) ?_))))))
 refine QJ rfl rfl rfl (WpL.nil (Qh rfl (fun h0 => ?_) (fun h0 => ?_)))
 ·refine Qb (Qa (Qd rfl rfl (WpL.nil (Qg ?_))))
  apply RetQ.mk
  ·exact (Res.one rfl rfl)
  ·exact ⟨by rw [show YS K W H M bs = 0 from if_pos h0], rfl⟩
  ·exact Take.ent' (by repeat' constructor)
 ·refine Wp.skip (Qb (Qa ?_))
  refine Qz (vs := [_, _, _, _]) rfl rfl rfl (by rfl) ?_
  refine Qk rfl rfl (by repeat' constructor) (Vm _ _ _ _) ?_
  rintro _ _ ⟨rfl, rfl⟩
  simp only [Qv]
  refine Qd rfl rfl (WpL.nil (Qb ?_))
  apply Xk (fB := []) mixed [(8, false)] (by kernel_rfl)
  apply Xd [⟨0, 13, _, [], false⟩, ⟨1, 14, _, [], false⟩, ⟨2, 15, _, [1], false⟩, ⟨3, 16, _, [], false⟩, ⟨4, 17, _, [3], false⟩, ⟨5, 18, _, [2, 4], false⟩, ⟨6, 19, _, [0, 5], false⟩, ⟨7, 20, _, [], false⟩] [] [0, 1, 2, 3, 4, 5, 6, 7] [6] (.inr rfl) rfl rfl rfl (by kernel_rfl) rfl rfl rfl
  ·refine AllF.cons rfl rfl rfl rfl ?_ ?_
   ·exact Qc rfl rfl (Qn rfl)
   refine AllF.cons rfl rfl rfl rfl ?_ ?_
   ·exact Qc rfl rfl (Qn rfl)
   refine AllF.cons rfl rfl rfl rfl ?_ ?_
   ·exact QO rfl rfl (WpL.nil ⟨rfl, rfl, rfl, by exact Ent.refl _⟩)
   refine AllF.cons rfl rfl rfl rfl ?_ ?_
   ·refine Qz (vs := [_, _, _, _]) rfl rfl rfl (by rfl) ?_
    exact Qn rfl
   refine AllF.cons rfl rfl rfl rfl ?_ ?_
   ·refine Qk rfl rfl (by repeat' constructor) (rSize_spec K W H M hR) ?_
    rintro _ _ ⟨rfl, rfl⟩
    simp only [Qv]
    exact WpL.nil ⟨rfl, rfl, rfl, by exact Ent.refl _⟩
   refine AllF.cons rfl rfl rfl rfl ?_ ?_
   ·exact s_min2 rfl rfl rfl (WpL.nil ⟨rfl, rfl, rfl, by exact Ent.refl _⟩)
   refine AllF.cons rfl rfl rfl rfl ?_ ?_
   ·refine s_sll_h (H := (bs.take (Qy K W (Qi M) * H)).length) rfl rfl rfl htl (by rw [List.length_take]; omega) ?_
    exact Qn rfl
   refine AllF.cons rfl rfl rfl rfl ?_ ?_
   ·refine Qz (vs := [_, _, _, _]) rfl rfl rfl (by rfl) ?_
    exact Qn rfl
   exact AllF.nil
  ·refine Qk rfl rfl (by repeat' constructor) (ZU A0 a0 c0 (bs.take (Qy K W (Qi M) * H)) hAt htb (by rw [List.length_take]; omega) (by rw [List.length_take]; omega) K (W : Int) (H : Int) M) ?_
   rintro _ _ ⟨a, c, rfl, rfl⟩
   simp only [Qv]
   rw [← hls]
   refine WpL.nil ⟨rfl, rfl, ?_⟩
   apply GoR.nil [⟨9, 6, _, [0, 1, 2, 3, 4, 5, 6, 7, 8], false⟩] (.inr rfl) rfl rfl
   ·refine AllF.cons rfl rfl rfl rfl ?_ ?_
    ·exact Qd rfl rfl (Qn rfl)
    exact AllF.nil
   ·refine Qb (Qb (Qa (Qd rfl rfl (WpL.nil (Wp.block ?_)))))
    refine Wp.loopD (σ := Nat) (fun j => j ≤ ls.length ∧ badI ((Qi M : Nat) : Int) M ls 0 = badI ((Qi M : Nat) : Int) M (ls.drop j) j) [4, 7, 22, 23, 24, 25, 26, 27, 28, 29, 30, 31, 32, 33, 34, 35, 36, 37, 38] (fun j => [(7, .int .i64 (j : Int))]) (fun j => [QD g1 [.int .i64 K, .int .i64 (W : Int), .int .i64 (H : Int), .int .i64 M] 113, own 3 1 a c ls.length (Q2 ls), A0]) (fun j => ls.length - j) 0 ?_ (by repeat (first | exact FrLe.nil | refine FrLe.cons rfl ?_)) ?_ ?_
    ·exact ⟨Nat.zero_le _, rfl⟩
    ·exact Take.ent' (by repeat' constructor)
    ·rintro j ⟨hj, hbd⟩
     refine Qb (Qb (Qa (Qc rfl rfl (Qc rfl rfl (QO rfl rfl (Xc rfl rfl rfl (WpL.nil (Qh rfl (fun h2 => ?_) (fun h2 => ?_)))))))))
     ·have hlt : j < ls.length := by omega
      have hdc : ls.drop j = ls[j] :: ls.drop (j + 1) := List.drop_eq_getElem_cons hlt
      refine Wp.skip (Qb (Wp.block ?_))
      refine Qb ?_
      apply Q3 mixed [⟨28, _, []⟩, ⟨29, _, []⟩, ⟨30, _, [0, 1]⟩, ⟨31, _, [2]⟩, ⟨32, _, []⟩, ⟨33, _, [4]⟩, ⟨34, _, [3, 5]⟩] rfl
      ·refine AllObs.mk ?_ ?_
       ·exact Qc rfl rfl (Qn rfl)
       refine AllObs.mk ?_ ?_
       ·exact Qc rfl rfl (Qn rfl)
       refine AllObs.mk ?_ ?_
       ·refine Xs j rfl rfl rfl Q4 (by exact Take.ent' (by repeat' constructor)) rfl (by omega) (by rw [Xm]; exact hlt) ?_
        exact Qn rfl
       refine AllObs.mk ?_ ?_
       ·refine Xv rfl rfl Q4 (by exact Take.ent' (by repeat' constructor)) (XO ls hlt) ?_
        exact Qn rfl
       refine AllObs.mk ?_ ?_
       ·exact Qj (o2 := 3) rfl rfl rfl (Qn rfl)
       refine AllObs.mk ?_ ?_
       ·refine Qm rfl rfl (by rfl) ?_
        exact Qn rfl
       refine AllObs.mk ?_ ?_
       ·exact XJ rfl rfl rfl (Qn rfl)
       exact AllObs.nil
      ·refine Qh rfl (fun h3 => ?_) (fun h3 => ?_)
       ·refine Qb (Qa (Qc rfl rfl (Qc rfl rfl (Qx rfl rfl rfl (Qp (by omega) (by omega)) ?_))))
        refine XQ rfl rfl rfl (Qp (by rcases hw with e | e <;> rw [e] <;> omega) (by rcases hw with e | e <;> rw [e] <;> omega)) ?_
        refine Qd rfl rfl (WpL.nil (Qg ?_))
        apply RetQ.mk
        ·exact (Res.one rfl rfl)
        ·exact ⟨by rw [show YS K W H M bs = _ from if_neg h0, ← hls, hbd, hdc, badI, if_pos h3], rfl⟩
        ·exact Take.ent' (by repeat' constructor)
       ·refine Wp.skip (Qa (Qc rfl rfl (Qx rfl rfl rfl (Qp (by omega) (by omega)) ?_)))
        refine Qd rfl rfl (WpL.nil (Qq (j + 1) ?_ ?_ (by ((repeat (first | exact Top.refl | refine Top.push rfl ?_)); done)) (by repeat (first | exact FrLe.nil | refine FrLe.cons rfl ?_)) ?_))
        ·exact ⟨by omega, by rw [hbd, hdc, badI, if_neg h3]; rfl⟩
        ·omega
        ·exact Ent.refl _
     ·refine QV (Qb (Qa (Qd rfl rfl (WpL.nil (Qg ?_)))))
      apply RetQ.mk
      ·exact (Res.one rfl rfl)
      ·exact ⟨by rw [show YS K W H M bs = _ from if_neg h0, ← hls, hbd, List.drop_of_length_le (by omega)]; rfl, rfl⟩
      ·exact Take.ent' (by repeat' constructor)

end Go.Proofs.YtggamdlpiejbiaaGreat
namespace Go.Proofs.YtggamdlpiejbiaaGreat
open Go.RowKit Go.Shelf


theorem chK_ref {K : Int} (hK : 4 ≤ K ∧ K ≤ 6) : (QT K).toNat = if K = 6 then 3 else 1 := by
  unfold QT
  split
  · rw [if_pos (by omega)]; rfl
  · rw [if_neg (by omega)]; rfl

set_option maxHeartbeats 1000000 in
theorem rRow_a (A0 : HP) (a0 : Option Addr) (c0 : Nat) (bs : List Int) (hA : RdsL [A0] a0 (XY bs)) (hbs : ∀ x ∈ bs, 0 ≤ x ∧ x ≤ 255) (hc0 : bs.length ≤ c0) (hbl : bs.length ≤ 100000000000) (K : Int) (W H : Nat) (M : Int) (hR : RawH K (W : Int) (H : Int) M) (hst : bs.length = Qy K W (Qi M)) (h4 : K = 4) : Fn Tryz.prog 110 #[.slice a0 bs.length c0, .agg #[.int .i64 K, .int .i64 (W : Int), .int .i64 (H : Int), .int .i64 M]] [A0] (fun v l => ∃ a c, v = .slice a W c ∧ l = [own 92 1 a c W (XG (Yg K W (Qi M) bs)), A0]) := by
 have hb := hR.bd
 have hch := YV K
 have hw := Q7 M
 have hsb := X1 (K := K) (W := W) hw (by omega) (by omega)
 have hcr := chK_ref hb.1
 have hcr2 : QT K = 1 ∨ QT K = 3 := hch
 obtain ⟨ls, hls⟩ : ∃ ls, ls = (Yv bs W) := ⟨_, rfl⟩
 have hlsl : ls.length = W := by rw [hls]; simp [Yv]
 have hrow : (Yg K W (Qi M) bs) = Yi (QT K).toNat ls := by unfold Yg; rw [if_pos h4, hls]
 have hlW : ls.length = W * (QT K).toNat := by rw [hlsl, show (QT K).toNat = 1 from by rw [h4]; rfl, Nat.mul_one]
 have hWc : W * (QT K).toNat ≤ 4096 * 3 := Nat.mul_le_mul (by omega) (by omega)
 refine Qo (vs := [.slice a0 bs.length c0, .agg #[.int .i64 K, .int .i64 (W : Int), .int .i64 (H : Int), .int .i64 M]]) Tryz.func110 rfl Tryz.ntmps110 rfl (Qb (Qa (Xf rfl rfl rfl ?_)))
 intro g1
 refine Qd rfl rfl (WpL.nil (Qb (Qa (Qc rfl rfl ?_))))
 refine Qz (vs := [_, _, _, _]) rfl rfl rfl (by rfl) ?_
 refine Qk rfl rfl (by repeat' constructor) (ZU A0 a0 c0 bs hA hbs hc0 hbl K (W : Int) (H : Int) M) ?_
 rintro _ _ ⟨a5, c5, rfl, rfl⟩
 simp only [Qv]
 skip
 refine Qd rfl rfl (WpL.nil (Qb (Qb (Qa (Qj (o2 := 0) rfl rfl rfl (Qm rfl rfl (by rfl) ?_))))))
 refine QJ rfl rfl rfl (WpL.nil (Q1 rfl h4 (Qb (Qa (Qc rfl rfl (Qj (o2 := 1) rfl rfl rfl (Qm rfl rfl (by rfl) ?_)))))))
 refine Qk rfl rfl (by repeat' constructor) (rUnpackB_spec A0 a0 c0 bs hA hbs hc0 hbl W (by omega) (by rw [hst, show Qy K W (Qi M) = (W + 7) / 8 from if_pos h4]; exact Nat.le_refl _)) ?_
 rintro _ _ ⟨a5, c5, rfl, rfl⟩
 simp only [Qv]
 rw [← hls]
 refine Qc rfl rfl (QL rfl rfl rfl (QL rfl rfl rfl (Qd rfl rfl (Qd rfl rfl (WpL.nil (Qa (Qc rfl rfl (Qd rfl rfl (WpL.nil (Qb (Qa (Qd rfl rfl ?_))))))))))))
 refine WpL.nil (Qb (Qb (Qa (Qj (o2 := 0) rfl rfl rfl (Qm rfl rfl (by rfl) ?_)))))
 refine QJ rfl rfl rfl (WpL.nil (Qh rfl (fun h1 => ?_) (fun h1 => ?_)))
 ·have hcN : (QT K).toNat = 3 := by rw [hcr, if_pos h1]
  refine Qa (Qd rfl rfl (WpL.nil (Qb (Qa (Qd rfl rfl (WpL.nil (Qb (Qb (Qa (Qd rfl rfl (WpL.nil (Wp.block ?_))))))))))))
  have hmulc := fun j : Nat => Nat.add_mul j 1 (QT K).toNat
  have hWc2 := hWc
  rw [hcN] at hWc2
  refine Wp.loopD (σ := SmX) (fun x => x.k ≤ W) [9, 10, 11, 12, 30, 31, 32, 33, 34, 35, 36, 37, 38, 39, 40, 41, 42, 43, 44, 45, 46, 47, 48, 49, 50, 51, 52] (fun x => [(10, .int .i64 ((x.k * (QT K).toNat : Nat) : Int)), (9, .slice x.a x.k x.c)]) (fun x => [own 92 1 x.a x.c x.k (XG ((Yi (QT K).toNat ls).take x.k)), own 3 1 a5 c5 W (Q2 ls), A0]) (fun x => W - x.k) ⟨0, none, 0⟩ ?_ (FrLe.cons (by rw [Nat.zero_mul]; rfl) (FrLe.cons rfl FrLe.nil)) ?_ ?_
  ·exact Nat.zero_le _
  ·exact (Ent.own_nil (T := 92) (s := 1) (Ent.refl _)).trans (Take.ent' (by repeat' constructor))
  ·rintro ⟨j, a, c⟩ hj
   dsimp only at hj ⊢
   have hjb : j * (QT K).toNat ≤ 4096 * 3 := Nat.le_trans (Nat.mul_le_mul_right _ hj) hWc
   refine Qb (Qb (Qa (Qc rfl rfl (Qc rfl rfl (Qx rfl rfl rfl (Qp (by omega) (by omega)) ?_)))))
   refine Qc rfl rfl (QO rfl rfl (s_le rfl rfl rfl (WpL.nil (Qh rfl (fun h3 => ?_) (fun h3 => ?_)))))
   ·have hjW : j < W := by rw [hcN] at h3 hlW; omega
    have hkc : j < ls.length / (QT K).toNat := by rw [hlW, Nat.mul_div_cancel _ (by omega)]; exact hjW
    have hcs := YZ (QT K).toNat ls hkc
    have hL1 : (j + 1) * (QT K).toNat ≤ ls.length := by rw [hlW]; exact Nat.mul_le_mul_right _ hjW
    have hj1 := hmulc j
    obtain ⟨one, hone⟩ : ∃ one, one = (ls.drop (j * (QT K).toNat)).take (QT K).toNat := ⟨_, rfl⟩
    have hol : one.length = (QT K).toNat := by rw [hone, List.length_take, List.length_drop]; omega
    rw [← hone] at hcs
    refine Wp.skip (Qb (Wp.block ?_))
    refine Qb (Qa (Qc rfl rfl (Qc rfl rfl (Qc rfl rfl (Qc rfl rfl (Qx rfl rfl rfl (Qp (by omega) (by omega)) ?_))))))
    refine Zd (T := 3) (xs := Q2 ls) (by repeat' constructor) (fun hlc => ?_)
    have hRo : RdsL [own 3 1 a5 c5 W (Q2 ls)] a5 (Q2 ls) := Q4
    have hRw := hRo.sla (j * (QT K).toNat) ((j + 1) * (QT K).toNat) c5 1 (by omega)
    rw [Z3, show (j + 1) * (QT K).toNat - j * (QT K).toNat = (QT K).toNat by omega, ← hone] at hRw
    refine Z7 (L := j * (QT K).toNat) (H := (j + 1) * (QT K).toNat) rfl rfl rfl rfl rfl (by rw [hj1, hcN]; push_cast; omega) (by omega) (by omega) ?_
    rw [show (j + 1) * (QT K).toNat - j * (QT K).toNat = one.length by omega]
    refine Qk rfl rfl (by repeat' constructor) (YI [_] _ _ one hRw (by omega)) ?_
    rintro _ _ ⟨rfl, rfl⟩
    simp only [Qv]
    refine Qc rfl rfl (QL rfl rfl rfl (QL rfl rfl rfl (Qd rfl rfl (Qd rfl rfl (WpL.nil (Qa (Qc rfl rfl (Qc rfl rfl ?_))))))))
    refine X7 rfl rfl rfl rfl ?_
    intro g2
    refine XC rfl rfl rfl (by repeat' constructor) (by rfl) (by rfl) (by rfl) (by rfl) (by omega) (by omega) ?_
    intro a52 c52
    rw [YH, hcs]
    refine Qd rfl rfl (WpL.nil (Qa (Qc rfl rfl (Qc rfl rfl (Qx rfl rfl rfl (Qp (by omega) (by omega)) ?_)))))
    refine Qd rfl rfl (WpL.nil (Qq (⟨j + 1, a52, c52⟩ : SmX) ?_ ?_ (by ((repeat (first | exact Top.refl | refine Top.push rfl ?_)); done)) (FrLe.cons (by first | exact congrArg (fun z => some (Value.int .i64 z)) (show ((j * (QT K).toNat : Nat) : Int) + _ = _ by rw [hmulc, hcN]; push_cast; omega)) (FrLe.cons rfl FrLe.nil)) ?_))
    ·simp only; omega
    ·simp only; omega
    ·exact Ent.refl _
   ·refine QV (Qb (Qa (Qc rfl rfl (Qd rfl rfl (WpL.nil (Qg ?_))))))
    have hjW : j = W := by rw [hcN] at h3 hlW; omega
    subst hjW
    rw [List.take_of_length_le (by rw [YB, hlW, Nat.mul_div_cancel _ (by omega)]; exact Nat.le_refl _), ← hrow]
    apply RetQ.mk
    ·exact (Res.one rfl rfl)
    ·exact ⟨a, c, rfl, rfl⟩
    ·exact Take.ent' (by repeat' constructor)
 ·have hcN : (QT K).toNat = 1 := by rw [hcr, if_neg h1]
  refine Wp.skip (Qb (Qa (Qd rfl rfl (WpL.nil (Qb (Qb (Qa (Qd rfl rfl (WpL.nil (Wp.block ?_))))))))))
  have hmulc := fun j : Nat => Nat.add_mul j 1 (QT K).toNat
  have hWc2 := hWc
  rw [hcN] at hWc2
  refine Wp.loopD (σ := SmX) (fun x => x.k ≤ W) [9, 10, 11, 12, 30, 31, 32, 33, 34, 35, 36, 37, 38, 39, 40, 41, 42, 43, 44, 45, 46, 47, 48, 49, 50, 51, 52] (fun x => [(10, .int .i64 ((x.k * (QT K).toNat : Nat) : Int)), (9, .slice x.a x.k x.c)]) (fun x => [own 92 1 x.a x.c x.k (XG ((Yi (QT K).toNat ls).take x.k)), own 3 1 a5 c5 W (Q2 ls), A0]) (fun x => W - x.k) ⟨0, none, 0⟩ ?_ (FrLe.cons (by rw [Nat.zero_mul]; rfl) (FrLe.cons rfl FrLe.nil)) ?_ ?_
  ·exact Nat.zero_le _
  ·exact (Ent.own_nil (T := 92) (s := 1) (Ent.refl _)).trans (Take.ent' (by repeat' constructor))
  ·rintro ⟨j, a, c⟩ hj
   dsimp only at hj ⊢
   have hjb : j * (QT K).toNat ≤ 4096 * 3 := Nat.le_trans (Nat.mul_le_mul_right _ hj) hWc
   refine Qb (Qb (Qa (Qc rfl rfl (Qc rfl rfl (Qx rfl rfl rfl (Qp (by omega) (by omega)) ?_)))))
   refine Qc rfl rfl (QO rfl rfl (s_le rfl rfl rfl (WpL.nil (Qh rfl (fun h3 => ?_) (fun h3 => ?_)))))
   ·have hjW : j < W := by rw [hcN] at h3 hlW; omega
    have hkc : j < ls.length / (QT K).toNat := by rw [hlW, Nat.mul_div_cancel _ (by omega)]; exact hjW
    have hcs := YZ (QT K).toNat ls hkc
    have hL1 : (j + 1) * (QT K).toNat ≤ ls.length := by rw [hlW]; exact Nat.mul_le_mul_right _ hjW
    have hj1 := hmulc j
    obtain ⟨one, hone⟩ : ∃ one, one = (ls.drop (j * (QT K).toNat)).take (QT K).toNat := ⟨_, rfl⟩
    have hol : one.length = (QT K).toNat := by rw [hone, List.length_take, List.length_drop]; omega
    rw [← hone] at hcs
    refine Wp.skip (Qb (Wp.block ?_))
    refine Qb (Qa (Qc rfl rfl (Qc rfl rfl (Qc rfl rfl (Qc rfl rfl (Qx rfl rfl rfl (Qp (by omega) (by omega)) ?_))))))
    refine Zd (T := 3) (xs := Q2 ls) (by repeat' constructor) (fun hlc => ?_)
    have hRo : RdsL [own 3 1 a5 c5 W (Q2 ls)] a5 (Q2 ls) := Q4
    have hRw := hRo.sla (j * (QT K).toNat) ((j + 1) * (QT K).toNat) c5 1 (by omega)
    rw [Z3, show (j + 1) * (QT K).toNat - j * (QT K).toNat = (QT K).toNat by omega, ← hone] at hRw
    refine Z7 (L := j * (QT K).toNat) (H := (j + 1) * (QT K).toNat) rfl rfl rfl rfl rfl (by rw [hj1, hcN]; push_cast; omega) (by omega) (by omega) ?_
    rw [show (j + 1) * (QT K).toNat - j * (QT K).toNat = one.length by omega]
    refine Qk rfl rfl (by repeat' constructor) (YI [_] _ _ one hRw (by omega)) ?_
    rintro _ _ ⟨rfl, rfl⟩
    simp only [Qv]
    refine Qc rfl rfl (QL rfl rfl rfl (QL rfl rfl rfl (Qd rfl rfl (Qd rfl rfl (WpL.nil (Qa (Qc rfl rfl (Qc rfl rfl ?_))))))))
    refine X7 rfl rfl rfl rfl ?_
    intro g3
    refine XC rfl rfl rfl (by repeat' constructor) (by rfl) (by rfl) (by rfl) (by rfl) (by omega) (by omega) ?_
    intro a52 c52
    rw [YH, hcs]
    refine Qd rfl rfl (WpL.nil (Qa (Qc rfl rfl (Qc rfl rfl (Qx rfl rfl rfl (Qp (by omega) (by omega)) ?_)))))
    refine Qd rfl rfl (WpL.nil (Qq (⟨j + 1, a52, c52⟩ : SmX) ?_ ?_ (by ((repeat (first | exact Top.refl | refine Top.push rfl ?_)); done)) (FrLe.cons (by first | exact congrArg (fun z => some (Value.int .i64 z)) (show ((j * (QT K).toNat : Nat) : Int) + _ = _ by rw [hmulc, hcN]; push_cast; omega)) (FrLe.cons rfl FrLe.nil)) ?_))
    ·simp only; omega
    ·simp only; omega
    ·exact Ent.refl _
   ·refine QV (Qb (Qa (Qc rfl rfl (Qd rfl rfl (WpL.nil (Qg ?_))))))
    have hjW : j = W := by rw [hcN] at h3 hlW; omega
    subst hjW
    rw [List.take_of_length_le (by rw [YB, hlW, Nat.mul_div_cancel _ (by omega)]; exact Nat.le_refl _), ← hrow]
    apply RetQ.mk
    ·exact (Res.one rfl rfl)
    ·exact ⟨a, c, rfl, rfl⟩
    ·exact Take.ent' (by repeat' constructor)

set_option maxHeartbeats 1000000 in
theorem rRow_b (A0 : HP) (a0 : Option Addr) (c0 : Nat) (bs : List Int) (hA : RdsL [A0] a0 (XY bs)) (hbs : ∀ x ∈ bs, 0 ≤ x ∧ x ≤ 255) (hc0 : bs.length ≤ c0) (hbl : bs.length ≤ 100000000000) (K : Int) (W H : Nat) (M : Int) (hR : RawH K (W : Int) (H : Int) M) (hst : bs.length = Qy K W (Qi M)) (h4 : K ≠ 4) : Fn Tryz.prog 110 #[.slice a0 bs.length c0, .agg #[.int .i64 K, .int .i64 (W : Int), .int .i64 (H : Int), .int .i64 M]] [A0] (fun v l => ∃ a c, v = .slice a W c ∧ l = [own 92 1 a c W (XG (Yg K W (Qi M) bs)), A0]) := by
 have hb := hR.bd
 have hch := YV K
 have hw := Q7 M
 have hsb := X1 (K := K) (W := W) hw (by omega) (by omega)
 have hcr := chK_ref hb.1
 have hcr2 : QT K = 1 ∨ QT K = 3 := hch
 obtain ⟨ls, hls⟩ : ∃ ls, ls = (Yl (Qi M) bs) := ⟨_, rfl⟩
 have hlsl : ls.length = (Yl (Qi M) bs).length := by rw [hls]
 have hrow : (Yg K W (Qi M) bs) = Yi (QT K).toNat ls := by unfold Yg; rw [if_neg h4, hls]
 have hlW : ls.length = W * (QT K).toNat := by rw [hlsl, YL, hst, strd_div hw h4]
 have hWc : W * (QT K).toNat ≤ 4096 * 3 := Nat.mul_le_mul (by omega) (by omega)
 refine Qo (vs := [.slice a0 bs.length c0, .agg #[.int .i64 K, .int .i64 (W : Int), .int .i64 (H : Int), .int .i64 M]]) Tryz.func110 rfl Tryz.ntmps110 rfl (Qb (Qa (Xf rfl rfl rfl ?_)))
 intro g1
 refine Qd rfl rfl (WpL.nil (Qb (Qa (Qc rfl rfl ?_))))
 refine Qz (vs := [_, _, _, _]) rfl rfl rfl (by rfl) ?_
 refine Qk rfl rfl (by repeat' constructor) (ZU A0 a0 c0 bs hA hbs hc0 hbl K (W : Int) (H : Int) M) ?_
 rintro _ _ ⟨a5, c5, rfl, rfl⟩
 simp only [Qv]
 rw [← hls]
 refine Qd rfl rfl (WpL.nil (Qb (Qb (Qa (Qj (o2 := 0) rfl rfl rfl (Qm rfl rfl (by rfl) ?_))))))
 refine QJ rfl rfl rfl (WpL.nil (QA rfl h4 (Wp.skip (Qb (Qa (Qd rfl rfl (WpL.nil (Qb (Qb (Qa (Qj (o2 := 0) rfl rfl rfl (Qm rfl rfl (by rfl) ?_))))))))))))
 refine QJ rfl rfl rfl (WpL.nil (Qh rfl (fun h1 => ?_) (fun h1 => ?_)))
 ·have hcN : (QT K).toNat = 3 := by rw [hcr, if_pos h1]
  refine Qa (Qd rfl rfl (WpL.nil (Qb (Qa (Qd rfl rfl (WpL.nil (Qb (Qb (Qa (Qd rfl rfl (WpL.nil (Wp.block ?_))))))))))))
  have hmulc := fun j : Nat => Nat.add_mul j 1 (QT K).toNat
  have hWc2 := hWc
  rw [hcN] at hWc2
  refine Wp.loopD (σ := SmX) (fun x => x.k ≤ W) [9, 10, 11, 12, 30, 31, 32, 33, 34, 35, 36, 37, 38, 39, 40, 41, 42, 43, 44, 45, 46, 47, 48, 49, 50, 51, 52] (fun x => [(10, .int .i64 ((x.k * (QT K).toNat : Nat) : Int)), (9, .slice x.a x.k x.c)]) (fun x => [own 92 1 x.a x.c x.k (XG ((Yi (QT K).toNat ls).take x.k)), own 3 1 a5 c5 ls.length (Q2 ls), A0]) (fun x => W - x.k) ⟨0, none, 0⟩ ?_ (FrLe.cons (by rw [Nat.zero_mul]; rfl) (FrLe.cons rfl FrLe.nil)) ?_ ?_
  ·exact Nat.zero_le _
  ·exact (Ent.own_nil (T := 92) (s := 1) (Ent.refl _)).trans (Take.ent' (by repeat' constructor))
  ·rintro ⟨j, a, c⟩ hj
   dsimp only at hj ⊢
   have hjb : j * (QT K).toNat ≤ 4096 * 3 := Nat.le_trans (Nat.mul_le_mul_right _ hj) hWc
   refine Qb (Qb (Qa (Qc rfl rfl (Qc rfl rfl (Qx rfl rfl rfl (Qp (by omega) (by omega)) ?_)))))
   refine Qc rfl rfl (QO rfl rfl (s_le rfl rfl rfl (WpL.nil (Qh rfl (fun h3 => ?_) (fun h3 => ?_)))))
   ·have hjW : j < W := by rw [hcN] at h3 hlW; omega
    have hkc : j < ls.length / (QT K).toNat := by rw [hlW, Nat.mul_div_cancel _ (by omega)]; exact hjW
    have hcs := YZ (QT K).toNat ls hkc
    have hL1 : (j + 1) * (QT K).toNat ≤ ls.length := by rw [hlW]; exact Nat.mul_le_mul_right _ hjW
    have hj1 := hmulc j
    obtain ⟨one, hone⟩ : ∃ one, one = (ls.drop (j * (QT K).toNat)).take (QT K).toNat := ⟨_, rfl⟩
    have hol : one.length = (QT K).toNat := by rw [hone, List.length_take, List.length_drop]; omega
    rw [← hone] at hcs
    refine Wp.skip (Qb (Wp.block ?_))
    refine Qb (Qa (Qc rfl rfl (Qc rfl rfl (Qc rfl rfl (Qc rfl rfl (Qx rfl rfl rfl (Qp (by omega) (by omega)) ?_))))))
    refine Zd (T := 3) (xs := Q2 ls) (by repeat' constructor) (fun hlc => ?_)
    have hRo : RdsL [own 3 1 a5 c5 ls.length (Q2 ls)] a5 (Q2 ls) := Q4
    have hRw := hRo.sla (j * (QT K).toNat) ((j + 1) * (QT K).toNat) c5 1 (by omega)
    rw [Z3, show (j + 1) * (QT K).toNat - j * (QT K).toNat = (QT K).toNat by omega, ← hone] at hRw
    refine Z7 (L := j * (QT K).toNat) (H := (j + 1) * (QT K).toNat) rfl rfl rfl rfl rfl (by rw [hj1, hcN]; push_cast; omega) (by omega) (by omega) ?_
    rw [show (j + 1) * (QT K).toNat - j * (QT K).toNat = one.length by omega]
    refine Qk rfl rfl (by repeat' constructor) (YI [_] _ _ one hRw (by omega)) ?_
    rintro _ _ ⟨rfl, rfl⟩
    simp only [Qv]
    refine Qc rfl rfl (QL rfl rfl rfl (QL rfl rfl rfl (Qd rfl rfl (Qd rfl rfl (WpL.nil (Qa (Qc rfl rfl (Qc rfl rfl ?_))))))))
    refine X7 rfl rfl rfl rfl ?_
    intro g2
    refine XC rfl rfl rfl (by repeat' constructor) (by rfl) (by rfl) (by rfl) (by rfl) (by omega) (by omega) ?_
    intro a52 c52
    rw [YH, hcs]
    refine Qd rfl rfl (WpL.nil (Qa (Qc rfl rfl (Qc rfl rfl (Qx rfl rfl rfl (Qp (by omega) (by omega)) ?_)))))
    refine Qd rfl rfl (WpL.nil (Qq (⟨j + 1, a52, c52⟩ : SmX) ?_ ?_ (by ((repeat (first | exact Top.refl | refine Top.push rfl ?_)); done)) (FrLe.cons (by first | exact congrArg (fun z => some (Value.int .i64 z)) (show ((j * (QT K).toNat : Nat) : Int) + _ = _ by rw [hmulc, hcN]; push_cast; omega)) (FrLe.cons rfl FrLe.nil)) ?_))
    ·simp only; omega
    ·simp only; omega
    ·exact Ent.refl _
   ·refine QV (Qb (Qa (Qc rfl rfl (Qd rfl rfl (WpL.nil (Qg ?_))))))
    have hjW : j = W := by rw [hcN] at h3 hlW; omega
    subst hjW
    rw [List.take_of_length_le (by rw [YB, hlW, Nat.mul_div_cancel _ (by omega)]; exact Nat.le_refl _), ← hrow]
    apply RetQ.mk
    ·exact (Res.one rfl rfl)
    ·exact ⟨a, c, rfl, rfl⟩
    ·exact Take.ent' (by repeat' constructor)
 ·have hcN : (QT K).toNat = 1 := by rw [hcr, if_neg h1]
  refine Wp.skip (Qb (Qa (Qd rfl rfl (WpL.nil (Qb (Qb (Qa (Qd rfl rfl (WpL.nil (Wp.block ?_))))))))))
  have hmulc := fun j : Nat => Nat.add_mul j 1 (QT K).toNat
  have hWc2 := hWc
  rw [hcN] at hWc2
  refine Wp.loopD (σ := SmX) (fun x => x.k ≤ W) [9, 10, 11, 12, 30, 31, 32, 33, 34, 35, 36, 37, 38, 39, 40, 41, 42, 43, 44, 45, 46, 47, 48, 49, 50, 51, 52] (fun x => [(10, .int .i64 ((x.k * (QT K).toNat : Nat) : Int)), (9, .slice x.a x.k x.c)]) (fun x => [own 92 1 x.a x.c x.k (XG ((Yi (QT K).toNat ls).take x.k)), own 3 1 a5 c5 ls.length (Q2 ls), A0]) (fun x => W - x.k) ⟨0, none, 0⟩ ?_ (FrLe.cons (by rw [Nat.zero_mul]; rfl) (FrLe.cons rfl FrLe.nil)) ?_ ?_
  ·exact Nat.zero_le _
  ·exact (Ent.own_nil (T := 92) (s := 1) (Ent.refl _)).trans (Take.ent' (by repeat' constructor))
  ·rintro ⟨j, a, c⟩ hj
   dsimp only at hj ⊢
   have hjb : j * (QT K).toNat ≤ 4096 * 3 := Nat.le_trans (Nat.mul_le_mul_right _ hj) hWc
   refine Qb (Qb (Qa (Qc rfl rfl (Qc rfl rfl (Qx rfl rfl rfl (Qp (by omega) (by omega)) ?_)))))
   refine Qc rfl rfl (QO rfl rfl (s_le rfl rfl rfl (WpL.nil (Qh rfl (fun h3 => ?_) (fun h3 => ?_)))))
   ·have hjW : j < W := by rw [hcN] at h3 hlW; omega
    have hkc : j < ls.length / (QT K).toNat := by rw [hlW, Nat.mul_div_cancel _ (by omega)]; exact hjW
    have hcs := YZ (QT K).toNat ls hkc
    have hL1 : (j + 1) * (QT K).toNat ≤ ls.length := by rw [hlW]; exact Nat.mul_le_mul_right _ hjW
    have hj1 := hmulc j
    obtain ⟨one, hone⟩ : ∃ one, one = (ls.drop (j * (QT K).toNat)).take (QT K).toNat := ⟨_, rfl⟩
    have hol : one.length = (QT K).toNat := by rw [hone, List.length_take, List.length_drop]; omega
    rw [← hone] at hcs
    refine Wp.skip (Qb (Wp.block ?_))
    refine Qb (Qa (Qc rfl rfl (Qc rfl rfl (Qc rfl rfl (Qc rfl rfl (Qx rfl rfl rfl (Qp (by omega) (by omega)) ?_))))))
    refine Zd (T := 3) (xs := Q2 ls) (by repeat' constructor) (fun hlc => ?_)
    have hRo : RdsL [own 3 1 a5 c5 ls.length (Q2 ls)] a5 (Q2 ls) := Q4
    have hRw := hRo.sla (j * (QT K).toNat) ((j + 1) * (QT K).toNat) c5 1 (by omega)
    rw [Z3, show (j + 1) * (QT K).toNat - j * (QT K).toNat = (QT K).toNat by omega, ← hone] at hRw
    refine Z7 (L := j * (QT K).toNat) (H := (j + 1) * (QT K).toNat) rfl rfl rfl rfl rfl (by rw [hj1, hcN]; push_cast; omega) (by omega) (by omega) ?_
    rw [show (j + 1) * (QT K).toNat - j * (QT K).toNat = one.length by omega]
    refine Qk rfl rfl (by repeat' constructor) (YI [_] _ _ one hRw (by omega)) ?_
    rintro _ _ ⟨rfl, rfl⟩
    simp only [Qv]
    refine Qc rfl rfl (QL rfl rfl rfl (QL rfl rfl rfl (Qd rfl rfl (Qd rfl rfl (WpL.nil (Qa (Qc rfl rfl (Qc rfl rfl ?_))))))))
    refine X7 rfl rfl rfl rfl ?_
    intro g3
    refine XC rfl rfl rfl (by repeat' constructor) (by rfl) (by rfl) (by rfl) (by rfl) (by omega) (by omega) ?_
    intro a52 c52
    rw [YH, hcs]
    refine Qd rfl rfl (WpL.nil (Qa (Qc rfl rfl (Qc rfl rfl (Qx rfl rfl rfl (Qp (by omega) (by omega)) ?_)))))
    refine Qd rfl rfl (WpL.nil (Qq (⟨j + 1, a52, c52⟩ : SmX) ?_ ?_ (by ((repeat (first | exact Top.refl | refine Top.push rfl ?_)); done)) (FrLe.cons (by first | exact congrArg (fun z => some (Value.int .i64 z)) (show ((j * (QT K).toNat : Nat) : Int) + _ = _ by rw [hmulc, hcN]; push_cast; omega)) (FrLe.cons rfl FrLe.nil)) ?_))
    ·simp only; omega
    ·simp only; omega
    ·exact Ent.refl _
   ·refine QV (Qb (Qa (Qc rfl rfl (Qd rfl rfl (WpL.nil (Qg ?_))))))
    have hjW : j = W := by rw [hcN] at h3 hlW; omega
    subst hjW
    rw [List.take_of_length_le (by rw [YB, hlW, Nat.mul_div_cancel _ (by omega)]; exact Nat.le_refl _), ← hrow]
    apply RetQ.mk
    ·exact (Res.one rfl rfl)
    ·exact ⟨a, c, rfl, rfl⟩
    ·exact Take.ent' (by repeat' constructor)

end Go.Proofs.YtggamdlpiejbiaaGreat
namespace Go.Proofs.YtggamdlpiejbiaaGreat
open Go.RowKit Go.Shelf

def QF (l0 l1 l2 : Int) : PS → List Int → PS × List (Evt × Int)
  | s, [] => (s, [])
  | s, c :: bs => ((QF l0 l1 l2 (Xq l0 l1 l2 s c).1 bs).1, ((Xq l0 l1 l2 s c).2.map fun x => (x, (Xq l0 l1 l2 s c).1.told)) ++ (QF l0 l1 l2 (Xq l0 l1 l2 s c).1 bs).2)
def YT (fin : Bool) (q : PS × List (Evt × Int)) : PS × List (Evt × Int) := if fin = true then ((Zo q.1).1, q.2 ++ (Zo q.1).2.map fun x => (x, q.1.told + 1)) else q
def XR (a : List (Evt × Int)) (q : PS × List (Evt × Int)) : PS × List (Evt × Int) := (q.1, a ++ q.2)
theorem Ys (a b : List (Evt × Int)) (q : PS × List (Evt × Int)) : XR a (XR b q) = XR (a ++ b) q := by simp [XR]
theorem papp_nil (q : PS × List (Evt × Int)) : XR [] q = q := rfl
theorem YG (fin : Bool) (a : List (Evt × Int)) (q : PS × List (Evt × Int)) : YT fin (XR a q) = XR a (YT fin q) := by
  unfold YT XR
  split
  · simp
  · rfl
theorem XK (l0 l1 l2 : Int) (s : PS) (c : Int) (bs : List Int) : QF l0 l1 l2 s (c :: bs) = XR ((Xq l0 l1 l2 s c).2.map fun x => (x, (Xq l0 l1 l2 s c).1.told)) (QF l0 l1 l2 (Xq l0 l1 l2 s c).1 bs) := rfl
/-- All that a stream tells. -/
def psAll (l0 l1 l2 : Int) (fin : Bool) (bs : List Int) : PS × List (Evt × Int) := YT fin (QF l0 l1 l2 ps0 bs)
theorem ZC (l0 l1 l2 : Int) {s : PS} {c : Int} (h : s.over = false) (he : s.e = 0) : Xq l0 l1 l2 s c = XS l0 l1 l2 { s with told := s.told + 1 } c := if_neg (by rw [h, he]; simp)
theorem psPut_dead (l0 l1 l2 : Int) {s : PS} {c : Int} (h : s.over = true ∨ s.e ≠ 0) : Xq l0 l1 l2 s c = (s, []) := if_pos h
theorem psRun_dead (l0 l1 l2 : Int) : ∀ (bs : List Int) {s : PS}, (s.over = true ∨ s.e ≠ 0) → QF l0 l1 l2 s bs = (s, [])
  | [], _, _ => rfl
  | c :: bs, s, h => by rw [XK, psPut_dead _ _ _ h, psRun_dead l0 l1 l2 bs h]; rfl
theorem psFin_dead {fin : Bool} {s : PS} {a : List (Evt × Int)} (h : s.over = true ∨ s.e ≠ 0) : YT fin (s, a) = (s, a) := by
  unfold YT
  split
  · have : Zo s = (s, []) := if_pos h
    simp [this]
  · rfl
theorem run_blank (l0 l1 l2 : Int) {hd : Option HS} {told imgs c : Int} {bs : List Int} (hb : Q8 c = true) : QF l0 l1 l2 ⟨hd, 0, .no, told, imgs, false, 0⟩ (c :: bs) = QF l0 l1 l2 ⟨hd, 0, .no, told + 1, imgs, false, 0⟩ bs := by
  have e : Xq l0 l1 l2 ⟨hd, 0, .no, told, imgs, false, 0⟩ c = (⟨hd, 0, .no, told + 1, imgs, false, 0⟩, []) := by
    rw [ZC _ _ _ rfl rfl]
    exact (if_pos rfl).trans (if_pos hb)
  rw [XK, e]; rfl
theorem run_first (l0 l1 l2 : Int) {hd : Option HS} {told imgs c : Int} {bs : List Int} (hb : Q8 c = false) : QF l0 l1 l2 ⟨hd, 0, .no, told, imgs, false, 0⟩ (c :: bs) = QF l0 l1 l2 ⟨some hd0, 1, .no, told, imgs, false, 0⟩ (c :: bs) := by
  have e : Xq l0 l1 l2 ⟨hd, 0, .no, told, imgs, false, 0⟩ c = Xq l0 l1 l2 ⟨some hd0, 1, .no, told, imgs, false, 0⟩ c := by
    rw [ZC _ _ _ rfl rfl, ZC _ _ _ rfl rfl]
    refine ((if_pos rfl).trans (if_neg (by rw [hb]; decide))).trans ?_
    refine Eq.trans ?_ ((if_neg (show ¬ (1 : Int) = 0 by decide)).trans (if_pos rfl)).symm
    unfold Xr
    rfl
  rw [XK, XK, e]
def YQ (h : HS) : Evt := ⟨1, QT h.K, h.M, h.W, h.H, []⟩
/-- A head, told byte by byte. -/
theorem run_head (l0 l1 l2 : Int) (hL : LimO l0 l1 l2) (imgs : Int) : ∀ (bs : List Int) (h : HS) (told : Int), hdJ l0 l1 l2 h →
    (((Q9 l0 l1 l2 h bs told).1.last = 0 ∧ (Q9 l0 l1 l2 h bs told).1.e = 9 ∧ QF l0 l1 l2 ⟨some h, 1, .no, told, imgs, false, 0⟩ bs = (⟨some (Q9 l0 l1 l2 h bs told).1, 1, .no, told + bs.length, imgs, false, 0⟩, [])) ∨
    ((Q9 l0 l1 l2 h bs told).1.last = 2 ∧ 2 ≤ (Q9 l0 l1 l2 h bs told).1.e ∧ (Q9 l0 l1 l2 h bs told).1.e ≤ 4 ∧ QF l0 l1 l2 ⟨some h, 1, .no, told, imgs, false, 0⟩ bs = (⟨some (Q9 l0 l1 l2 h bs told).1, 1, .no, (Q9 l0 l1 l2 h bs told).2, imgs, false, (Q9 l0 l1 l2 h bs told).1.e⟩, [])) ∨
    (Yo (Q9 l0 l1 l2 h bs told).1 ∧ QF l0 l1 l2 ⟨some h, 1, .no, told, imgs, false, 0⟩ bs = XR [(YQ (Q9 l0 l1 l2 h bs told).1, (Q9 l0 l1 l2 h bs told).2)] (QF l0 l1 l2 ⟨some (Q9 l0 l1 l2 h bs told).1, 2, bd0 (Q9 l0 l1 l2 h bs told).1, (Q9 l0 l1 l2 h bs told).2, imgs, false, 0⟩ (bs.drop ((Q9 l0 l1 l2 h bs told).2 - told).toNat)))) ∧
    told ≤ (Q9 l0 l1 l2 h bs told).2 ∧ (Q9 l0 l1 l2 h bs told).2 ≤ told + bs.length
  | [], h, told, hj => by
    refine ⟨.inl ⟨hj.1.1, hj.2.1, ?_⟩, by simp [Q9], by simp [Q9]⟩
    simp [Q9, QF]
  | c :: bs, h, told, hj => by
    have hst : Xq l0 l1 l2 ⟨some h, 1, .no, told, imgs, false, 0⟩ c = Xr ⟨some h, 1, .no, told + 1, imgs, false, 0⟩ (QU l0 l1 l2 h c) := by
      rw [ZC _ _ _ rfl rfl]
      exact (if_neg (show ¬ (1 : Int) = 0 by decide)).trans (if_pos rfl)
    rw [XK, hst, Q9]
    rcases hdPut_ok (c := c) hL hj with hk | hk | hk
    · have h0 := hk.1.1
      have e : Xr ⟨some h, 1, .no, told + 1, imgs, false, 0⟩ (QU l0 l1 l2 h c) = (⟨some (QU l0 l1 l2 h c), 1, .no, told + 1, imgs, false, 0⟩, []) := if_pos h0
      rw [e, if_neg (by rw [h0]; decide)]
      have ih := run_head l0 l1 l2 hL imgs bs (QU l0 l1 l2 h c) (told + 1) hk
      simp only [List.map_nil, papp_nil, List.length_cons]
      obtain ⟨ih, ih1, ih2⟩ := ih
      refine ⟨?_, by omega, by push_cast; omega⟩
      rcases ih with ⟨i1, i2, i3⟩ | ⟨i1, i2, i3, i4⟩ | ⟨i1, i2⟩
      · exact .inl ⟨i1, i2, by rw [i3]; congr 2; push_cast; omega⟩
      · exact .inr (.inl ⟨i1, i2, i3, i4⟩)
      · refine .inr (.inr ⟨i1, ?_⟩)
        rw [i2, show ((Q9 l0 l1 l2 (QU l0 l1 l2 h c) bs (told + 1)).2 - told).toNat = ((Q9 l0 l1 l2 (QU l0 l1 l2 h c) bs (told + 1)).2 - (told + 1)).toNat + 1 by omega]
        rfl
    · have h0 := hk.1
      have e : Xr ⟨some h, 1, .no, told + 1, imgs, false, 0⟩ (QU l0 l1 l2 h c) = (⟨some (QU l0 l1 l2 h c), 1, .no, told + 1, imgs, false, (QU l0 l1 l2 h c).e⟩, []) := (if_neg (by rw [h0]; decide)).trans (if_pos (by have := hk.2.1; omega))
      rw [e, if_pos (by rw [h0]; decide)]
      simp only [List.map_nil, papp_nil, List.length_cons]
      refine ⟨.inr (.inl ⟨h0, hk.2.1, hk.2.2, psRun_dead _ _ _ _ (.inr (by have := hk.2.1; simp only; omega))⟩), by omega, by push_cast; omega⟩
    · have h0 := hk.1
      have e : Xr ⟨some h, 1, .no, told + 1, imgs, false, 0⟩ (QU l0 l1 l2 h c) = (⟨some (QU l0 l1 l2 h c), 2, bd0 (QU l0 l1 l2 h c), told + 1, imgs, false, 0⟩, [YQ (QU l0 l1 l2 h c)]) := (if_neg (by rw [h0]; decide)).trans (if_neg (fun q => q hk.2.1))
      rw [e, if_pos (by rw [h0]; decide)]
      simp only [List.map_cons, List.map_nil, List.length_cons]
      refine ⟨.inr (.inr ⟨hk, ?_⟩), by omega, by push_cast; omega⟩
      rw [show (told + 1 - told).toNat = 1 by omega]
      rfl
/-- What a raster's reading tells: its events, how Zc bytes of all were told behind it, the error (9: it goes on). -/
def Y4 (l0 l1 l2 : Int) (fin : Bool) (h : HS) (bd : Bd) (bs : List Int) (at0 imgs : Int) (out : List (Evt × Int)) (to f : Int) : Prop :=
  (f = 0 → YT fin (QF l0 l1 l2 ⟨some h, 2, bd, at0, imgs, false, 0⟩ (bs.drop at0.toNat)) = XR out (YT fin (QF l0 l1 l2 ⟨some h, 0, .no, to, imgs + 1, false, 0⟩ (bs.drop to.toNat)))) ∧
  (f ≠ 0 → ∃ s', YT fin (QF l0 l1 l2 ⟨some h, 2, bd, at0, imgs, false, 0⟩ (bs.drop at0.toNat)) = (s', out) ∧ s'.e = (if f = 9 then 0 else f) ∧ s'.told = to ∧ s'.imgs = imgs)

end Go.Proofs.YtggamdlpiejbiaaGreat
