/- Walks and plain laws, a part of the proof of ImageKinds: every input that the law's guards let in, no condition beside. -/
import Derived.Test.YtggamdlpiejbiaaGreatM20
namespace Go.Proofs.YtggamdlpiejbiaaGreat
open Go.RowKit Go.Shelf

theorem rForm01_spec (C M : Int) (_hC : -9223372036854775808 ≤ C ∧ C < 9223372036854775808) (hM : -9223372036854775808 ≤ M ∧ M < 9223372036854775808) : Fn Tryz.prog 42 #[.agg #[.int .i64 C, .int .i64 M]] [] (fun v l => ∃ C' M', v = .agg #[.int .i64 C', .int .i64 M'] ∧ l = []) := by
 have hab := aroundI_bd (x := M) (m := 65535) (by omega)
 refine Ql (vs := [.agg #[.int .i64 C, .int .i64 M]]) Tryz.func42 rfl Tryz.ntmps42 rfl (Qb (Qa (Q2 rfl rfl rfl ?_)))
 intro g1
 refine Yd rfl ?_
 intro g2
 refine WpL.nil (Qb (Qa (Qj (o2 := 1) rfl rfl rfl (Qo rfl rfl (by rfl) ?_))))
 refine Qh rfl rfl (by repeat' constructor) (Around_spec _ _ (by omega) (by omega) (by omega)) ?_
 rintro _ _ ⟨rfl, rfl⟩
 simp only [Qq]
 refine QI rfl rfl rfl (Qv (by omega) (by omega)) ?_
 refine Yt rfl rfl ?_
 refine Yd rfl ?_
 intro g3
 refine Xm rfl rfl rfl (by rfl) rfl ?_
 refine WpL.nil (Qb (Qb (Qa (Qj (o2 := 0) rfl rfl rfl (Qo rfl rfl (by rfl) ?_)))))
 refine s_remt rfl rfl rfl (by omega) ?_
 refine Xf rfl rfl rfl (WpL.nil (Qn rfl (fun h0 => ?_) (fun h0 => ?_)))
 ·refine Qa (Qj (o2 := 0) rfl rfl rfl (QZ rfl rfl rfl (WpL.nil (Qb (Qa ?_)))))
  refine QD (vs := [_, _]) rfl rfl rfl (by rfl) ?_
  refine Xm rfl rfl rfl (by rfl) rfl ?_
  refine WpL.nil (Qi ?_)
  apply RetQ.mk
  ·exact (YE rfl rfl (by rfl))
  ·exact ⟨_, _, rfl, rfl⟩
  ·exact Ent.nil _
 ·refine Wp.skip (Qb (Qa ?_))
  refine QD (vs := [_, _]) rfl rfl rfl (by rfl) ?_
  refine Xm rfl rfl rfl (by rfl) rfl ?_
  refine WpL.nil (Qi ?_)
  apply RetQ.mk
  ·exact (YE rfl rfl (by rfl))
  ·exact ⟨_, _, rfl, rfl⟩
  ·exact Ent.nil _

theorem Same01_true (As : List HP) (a b : Option Addr) (c c2 : Nat) (zs : List Int) (hA : RdsL As a (QS zs)) (hB : RdsL As b (QS zs)) (hl : zs.length ≤ 1000000000) : Fn Tryz.prog 43 #[.slice a zs.length c, .slice b zs.length c2] As (fun v l => v = .bool true ∧ l = As) := by
 refine Ql (vs := [.slice a zs.length c, .slice b zs.length c2]) Tryz.func43 rfl Tryz.ntmps43 rfl (Qb (Qa (Qe rfl rfl (WpL.nil (Qb (Qb (Qa (Qc rfl rfl (QR rfl rfl (Qc rfl rfl (QR rfl rfl (Xf rfl rfl rfl ?_))))))))))))
 refine WpL.nil (Qw rfl (fun h => h rfl) ?_)
 refine Wp.skip (Qb (Qb (Qa (Qe rfl rfl (WpL.nil (Wp.block ?_))))))
 refine Wp.loopD (σ := Nat) (fun k => k ≤ zs.length) [4, 5, 11, 12, 13, 14, 15, 16, 17, 18, 19, 20, 21, 22, 23, 24, 25] (fun k => [(5, .int .i64 (k : Int))]) (fun _ => _) (fun k => zs.length - k) 0 ?_ (by repeat (first | exact FrLe.nil | refine FrLe.cons rfl ?_)) (Ent.refl _) ?_
 ·exact Nat.zero_le _
 ·intro k hk
  refine Qb (Qb (Qa (Qc rfl rfl (Qc rfl rfl (QR rfl rfl (Xg rfl rfl rfl (WpL.nil (Qn rfl (fun h2 => ?_) (fun h2 => ?_)))))))))
  ·have hlt : k < zs.length := by omega
   refine Wp.skip (Qb (Wp.block ?_))
   refine Qb ?_
   apply QO mixed [⟨17, _, []⟩, ⟨18, _, []⟩, ⟨19, _, [0, 1]⟩, ⟨20, _, [2]⟩, ⟨21, _, []⟩, ⟨22, _, []⟩, ⟨23, _, [4, 5]⟩, ⟨24, _, [6]⟩, ⟨25, _, [3, 7]⟩] rfl
   ·refine AllObs.mk ?_ ?_
    ·exact Qc rfl rfl (Qm rfl)
    refine AllObs.mk ?_ ?_
    ·exact Qc rfl rfl (Qm rfl)
    refine AllObs.mk ?_ ?_
    ·refine Xd k rfl rfl rfl hA (Ent.refl _) rfl (by omega) (by rw [Xt]; omega) ?_
     exact Qm rfl
    refine AllObs.mk ?_ ?_
    ·refine Xr rfl rfl hA (Ent.refl _) (XT zs hlt) ?_
     exact Qm rfl
    refine AllObs.mk ?_ ?_
    ·exact Qc rfl rfl (Qm rfl)
    refine AllObs.mk ?_ ?_
    ·exact Qc rfl rfl (Qm rfl)
    refine AllObs.mk ?_ ?_
    ·refine Xd k rfl rfl rfl hB (Ent.refl _) rfl (by omega) (by rw [Xt]; omega) ?_
     exact Qm rfl
    refine AllObs.mk ?_ ?_
    ·refine Xr rfl rfl hB (Ent.refl _) (XT zs hlt) ?_
     exact Qm rfl
    refine AllObs.mk ?_ ?_
    ·exact Xf rfl rfl rfl (Qm rfl)
    exact AllObs.nil
   ·refine Qw rfl (fun h => h rfl) ?_
    refine Wp.skip (Qa (Qc rfl rfl (QI rfl rfl rfl (Qv (by omega) (by omega)) ?_)))
    refine Qe rfl rfl (WpL.nil (QB (k + 1) ?_ ?_ (by ((repeat (first | exact Top.refl | refine Top.push rfl ?_)); done)) (by repeat (first | exact FrLe.nil | refine FrLe.cons rfl ?_)) ?_))
    ·omega
    ·omega
    ·exact Ent.refl _
  ·refine QU (Qb (Qa (Qe rfl rfl (WpL.nil (Qi ?_)))))
   apply RetQ.mk
   ·exact (Res.one rfl rfl)
   ·exact ⟨rfl, rfl⟩
   ·exact Ent.refl _

set_option maxHeartbeats 1000000 in
theorem lKinds_spec (C M : Int) (hC : -9223372036854775808 ≤ C ∧ C < 9223372036854775808) (hM : -9223372036854775808 ≤ M ∧ M < 9223372036854775808) : Fn Tryz.prog 9 #[.agg #[.int .i64 C, .int .i64 M]] [] (fun v l => v = .bool true ∧ l = []) := by
 refine Ql (vs := [.agg #[.int .i64 C, .int .i64 M]]) Tryz.func9 rfl Tryz.ntmps9 rfl (Qb (Qa (Q2 rfl rfl rfl ?_)))
 intro gA
 refine Qe rfl rfl (WpL.nil (Qb (Qa ?_)))
 refine QD (vs := [_, _]) rfl rfl rfl (by rfl) ?_
 refine Qh rfl rfl (by repeat' constructor) (rForm01_spec C M hC hM) ?_
 rintro _ _ ⟨C', M', rfl, rfl⟩
 simp only [Qq]
 refine Yd rfl ?_
 intro gF
 refine Xm rfl rfl rfl (by rfl) rfl ?_
 refine WpL.nil (Qb (Qa (Qj (o2 := 0) rfl rfl rfl (Qo rfl rfl (by rfl) ?_))))
 refine Yt rfl rfl ?_
 refine Yd rfl ?_
 intro gO
 refine Xm rfl rfl rfl (by rfl) rfl ?_
 refine WpL.nil (Qb ?_)
 apply XL (fB := [Qy gA [.int .i64 C, .int .i64 M] 48, Qy gF [.int .i64 C', .int .i64 M'] 48, Qy gO [.int .i64 C', .int .i64 1] 48]) [0, 2, 1, 3, 4, 5, 6, 8, 7, 9, 10, 11, 12, 13, 15, 14, 16, 17, 18, 19, 20, 21, 22] [10, 12, 11, 13, 14, 15, 16, 18, 17, 19, 20, 21, 22, 23, 25, 24, 26, 27, 28, 29, 30, 31, 2] 23 mixed (by kernel_rfl) [(2, false), (0, false), (4, false), (0, false), (5, false), (0, false)] (by kernel_rfl) (by kernel_rfl) (by kernel_rfl)
 apply Q1 [⟨0, 10, _, [], false⟩, ⟨1, 12, _, [], true⟩] [] [0] [13, 14, 15, 16, 18, 17, 19, 20, 21, 22, 23, 25, 24, 26, 27, 28, 29, 30, 31, 2] [13, 14, 15, 16, 18, 17, 19, 20, 21, 22, 23, 25, 24, 26, 27, 28, 29, 30, 31, 2, 12] (.inl ⟨_, by repeat' constructor⟩) rfl rfl rfl (by kernel_rfl) rfl (by kernel_rfl) rfl rfl
 ·refine Qk 0 [] rfl rfl rfl rfl (by kernel_rfl) rfl ?_ ?_
  ·refine QD (vs := [_, _]) rfl rfl rfl (by rfl) ?_
   exact Qm rfl
  refine Qs 1 [] rfl rfl rfl rfl (by kernel_rfl) rfl ?_ ?_
  ·refine QD (vs := [_, _]) rfl rfl rfl (by rfl) ?_
   exact Qm rfl
  exact AllF.nil
 ·refine Qh rfl rfl (by repeat' constructor) (YS C M) ?_
  rintro _ _ ⟨a1, c1, rfl, rfl⟩
  simp only [Qq]
  refine WpL.nil ⟨rfl, rfl, ?_⟩
  apply Q1 [] [1] [1] [14, 15, 16, 18, 17, 19, 20, 21, 22, 23, 25, 24, 26, 27, 28, 29, 30, 31, 2] [14, 15, 16, 18, 17, 19, 20, 21, 22, 23, 25, 24, 26, 27, 28, 29, 30, 31, 2] (.inl ⟨_, by repeat' constructor⟩) rfl rfl rfl (by kernel_rfl) rfl (by kernel_rfl) rfl rfl
  ·exact AllF.nil
  ·refine Qh rfl rfl (by repeat' constructor) (YY C M) ?_
   rintro _ _ ⟨a2, c2, rfl, rfl⟩
   simp only [Qq]
   refine WpL.nil ⟨rfl, rfl, ?_⟩
   apply Q1 [⟨4, 14, _, [2, 3], false⟩, ⟨5, 15, _, [4], false⟩, ⟨6, 16, _, [5], false⟩, ⟨7, 18, _, [5], true⟩] [] [4, 5, 6] [19, 20, 21, 22, 23, 25, 24, 26, 27, 28, 29, 30, 31, 2] [19, 20, 21, 22, 23, 25, 24, 26, 27, 28, 29, 30, 31, 2, 18] (.inl ⟨_, by repeat' constructor⟩) rfl rfl rfl (by kernel_rfl) rfl (by kernel_rfl) rfl rfl
   ·refine Qk 4 [2, 3] rfl rfl rfl rfl (by kernel_rfl) rfl ?_ ?_
    ·refine Qh rfl rfl (by repeat' constructor) (Same01_true [QH 3 1 a1 c1 (QL C M).length (QS (QL C M)), QH 3 1 a2 c2 (QL C M).length (QS (QL C M))] _ _ _ _ (QL C M) QM.head QM.tail (by have := kinds_len (C := C) (M := M); omega)) ?_
     rintro _ _ ⟨rfl, rfl⟩
     simp only [Qq]
     exact WpL.nil ⟨rfl, rfl, rfl, by exact Take.ent' (by repeat' constructor)⟩
    refine Qk 5 [4] rfl rfl rfl rfl (by kernel_rfl) rfl ?_ ?_
    ·exact Qc rfl rfl (Qm rfl)
    refine Qk 6 [5] rfl rfl rfl rfl (by kernel_rfl) rfl ?_ ?_
    ·refine Qf rfl rfl ?_
     refine QD (vs := [_, _]) rfl rfl rfl (by rfl) ?_
     exact Qm rfl
    refine Qs 7 [5] rfl rfl rfl rfl (by kernel_rfl) rfl ?_ ?_
    ·refine Qf rfl rfl ?_
     refine QD (vs := [_, _]) rfl rfl rfl (by rfl) ?_
     exact Qm rfl
    exact AllF.nil
   ·refine Qf rfl rfl (Qh rfl rfl (by repeat' constructor) (YS C' M') ?_)
    rintro _ _ ⟨a1, c1, rfl, rfl⟩
    simp only [Qq]
    refine WpL.nil ⟨rfl, rfl, ?_⟩
    apply Q1 [] [7] [7] [20, 21, 22, 23, 25, 24, 26, 27, 28, 29, 30, 31, 2] [20, 21, 22, 23, 25, 24, 26, 27, 28, 29, 30, 31, 2] (.inl ⟨_, by repeat' constructor⟩) rfl rfl rfl (by kernel_rfl) rfl (by kernel_rfl) rfl rfl
    ·exact AllF.nil
    ·refine Qf rfl rfl (Qh rfl rfl (by repeat' constructor) (YY C' M') ?_)
     rintro _ _ ⟨a2, c2, rfl, rfl⟩
     simp only [Qq]
     refine WpL.nil ⟨rfl, rfl, ?_⟩
     apply Q1 [⟨10, 20, _, [5, 8, 9], false⟩, ⟨11, 21, _, [5, 10], false⟩, ⟨12, 22, _, [10, 11], false⟩, ⟨13, 23, _, [12], false⟩, ⟨14, 25, _, [12], true⟩] [] [10, 11, 12, 13] [26, 27, 28, 29, 30, 31, 2] [26, 27, 28, 29, 30, 31, 2, 25] (.inl ⟨_, by repeat' constructor⟩) rfl rfl rfl (by kernel_rfl) rfl (by kernel_rfl) rfl rfl
     ·refine Qk 10 [5, 8, 9] rfl rfl rfl rfl (by kernel_rfl) rfl ?_ ?_
      ·refine Qf rfl rfl (Qh rfl rfl (by repeat' constructor) (Same01_true [QH 3 1 a1 c1 (QL C' M').length (QS (QL C' M')), QH 3 1 a2 c2 (QL C' M').length (QS (QL C' M'))] _ _ _ _ (QL C' M') QM.head QM.tail (by have := kinds_len (C := C') (M := M'); omega)) ?_)
       rintro _ _ ⟨rfl, rfl⟩
       simp only [Qq]
       exact WpL.nil ⟨rfl, rfl, rfl, by exact Take.ent' (by repeat' constructor)⟩
      refine Qk 11 [5, 10] rfl rfl rfl rfl (by kernel_rfl) rfl ?_ ?_
      ·exact Qz rfl rfl rfl (Qm rfl)
      refine Qk 12 [10, 11] rfl rfl rfl rfl (by kernel_rfl) rfl ?_ ?_
      ·exact Qc rfl rfl (Qm rfl)
      refine Qk 13 [12] rfl rfl rfl rfl (by kernel_rfl) rfl ?_ ?_
      ·refine Qf rfl rfl ?_
       refine QD (vs := [_, _]) rfl rfl rfl (by rfl) ?_
       exact Qm rfl
      refine Qs 14 [12] rfl rfl rfl rfl (by kernel_rfl) rfl ?_ ?_
      ·refine Qf rfl rfl ?_
       refine QD (vs := [_, _]) rfl rfl rfl (by rfl) ?_
       exact Qm rfl
      exact AllF.nil
     ·refine Qf rfl rfl (Qh rfl rfl (by repeat' constructor) (YS C' 1) ?_)
      rintro _ _ ⟨a1, c1, rfl, rfl⟩
      simp only [Qq]
      refine WpL.nil ⟨rfl, rfl, ?_⟩
      apply Q1 [] [14] [14] [27, 28, 29, 30, 31, 2] [27, 28, 29, 30, 31, 2] (.inl ⟨_, by repeat' constructor⟩) rfl rfl rfl (by kernel_rfl) rfl (by kernel_rfl) rfl rfl
      ·exact AllF.nil
      ·refine Qf rfl rfl (Qh rfl rfl (by repeat' constructor) (YY C' 1) ?_)
       rintro _ _ ⟨a2, c2, rfl, rfl⟩
       simp only [Qq]
       refine WpL.nil ⟨rfl, rfl, ?_⟩
       apply XI [⟨17, 27, _, [12, 15, 16], false⟩, ⟨18, 28, _, [12, 17], false⟩, ⟨19, 29, _, [17, 18], false⟩, ⟨20, 30, _, [19], false⟩, ⟨21, 31, _, [19, 20], false⟩, ⟨22, 2, _, [0, 1, 2, 3, 4, 5, 6, 7, 8, 9, 10, 11, 12, 13, 14, 15, 16, 17, 18, 19, 20, 21], false⟩] 23 (by kernel_rfl) (.inr rfl) rfl rfl
       ·refine Qk 17 [12, 15, 16] rfl rfl rfl rfl (by kernel_rfl) rfl ?_ ?_
        ·refine Qf rfl rfl (Qh rfl rfl (by repeat' constructor) (Same01_true [QH 3 1 a1 c1 (QL C' 1).length (QS (QL C' 1)), QH 3 1 a2 c2 (QL C' 1).length (QS (QL C' 1))] _ _ _ _ (QL C' 1) QM.head QM.tail (by have := kinds_len (C := C') (M := 1); omega)) ?_)
         rintro _ _ ⟨rfl, rfl⟩
         simp only [Qq]
         exact WpL.nil ⟨rfl, rfl, rfl, by exact Take.ent' (by repeat' constructor)⟩
        refine Qk 18 [12, 17] rfl rfl rfl rfl (by kernel_rfl) rfl ?_ ?_
        ·exact Qz rfl rfl rfl (Qm rfl)
        refine Qk 19 [17, 18] rfl rfl rfl rfl (by kernel_rfl) rfl ?_ ?_
        ·exact Qc rfl rfl (Qm rfl)
        refine Qk 20 [19] rfl rfl rfl rfl (by kernel_rfl) rfl ?_ ?_
        ·refine Qf rfl rfl (Qh rfl rfl (by repeat' constructor) (lives10_spec) ?_)
         rintro _ _ ⟨rfl, rfl⟩
         simp only [Qq]
         exact WpL.nil ⟨rfl, rfl, rfl, by exact Ent.refl _⟩
        refine Qk 21 [19, 20] rfl rfl rfl rfl (by kernel_rfl) rfl ?_ ?_
        ·exact Qz rfl rfl rfl (Qm rfl)
        refine Qk 22 [0, 1, 2, 3, 4, 5, 6, 7, 8, 9, 10, 11, 12, 13, 14, 15, 16, 17, 18, 19, 20, 21] rfl rfl rfl rfl (by kernel_rfl) rfl ?_ ?_
        ·exact Qe rfl rfl (Qm rfl)
        exact AllF.nil
       ·refine Qi ?_
        apply RetQ.mk
        ·exact (Res.one rfl rfl)
        ·exact ⟨rfl, rfl⟩
        ·exact Ent.nil _

end Go.Proofs.YtggamdlpiejbiaaGreat
