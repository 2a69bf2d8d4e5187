/- Walks and plain laws, a part of the proof of ImageCuts: every input that the law's guards let in, no condition beside. -/
import Derived.Test.YtggamdlpiejbiaaGreatM29
namespace Go.Proofs.YtggamdlpiejbiaaGreat
open Go.RowKit Go.Shelf

set_option maxHeartbeats 2000000 in
theorem lCuts_spec (A0 : HP) (g : GS) (hg1 : ∀ x ∈ g.zs, -9223372036854775808 ≤ x ∧ x < 9223372036854775808) (hg2 : g.zs.length ≤ 9223372036854775807) (hg3 : RdsL [A0] g.a (Q5 g.zs)) (hg4 : -9223372036854775808 ≤ g.mx ∧ g.mx < 9223372036854775808) (hg5 : -9223372036854775808 ≤ g.w ∧ g.w < 9223372036854775808) (hg6 : -9223372036854775808 ≤ g.h ∧ g.h < 9223372036854775808) (kd p : Int) (hkd : -9223372036854775808 ≤ kd ∧ kd < 9223372036854775808) (hp : -9223372036854775808 ≤ p ∧ p < 9223372036854775808) : Fn Tryz.prog 10 #[.agg (gC g).toArray, .int .i64 kd, .int .i64 p] [A0] (fun v l => v = .bool true ∧ l = [A0]) := by
 refine Ql (vs := [.agg (gC g).toArray, .int .i64 kd, .int .i64 p]) Tryz.func10 rfl Tryz.ntmps10 rfl (Qb (Qa (Q2 rfl rfl rfl ?_)))
 intro gG
 refine Qd rfl rfl (WpL.nil (Qb (Qa ?_)))
 refine Qw (vs := [_, _, _, _, _]) rfl rfl rfl (by rfl) ?_
 refine Qi rfl rfl (by repeat' constructor) (rGood10_spec A0 g.three g.mx g.w g.h g.a g.c g.zs hg1 hg2 hg3 hg4 hg5 hg6 5 (by omega)) ?_
 rintro _ _ ⟨m, a1, c1, hgd, rfl, rfl⟩
 simp only [Qs]
 have hfm := good_fmt hgd
 have hkp := kinds_posF hfm
 have hkl := kinds_len (C := m.c) (M := m.m)
 have hab := X6 (x := kd) (m := (Q4 m.c m.m).length) (by omega)
 have hix : (Q3 kd (Q4 m.c m.m).length).toNat < (Q4 m.c m.m).length := by omega
 have hkm := List.getElem_mem hix
 refine XH rfl ?_
 intro gI
 refine QC rfl rfl rfl (by rfl) rfl ?_
 refine WpL.nil (Qb (Qa (Qk (o2 := 0) rfl rfl rfl ?_)))
 refine Qw (vs := [_, _]) rfl rfl rfl (by rfl) ?_
 refine Qi rfl rfl (by repeat' constructor) (rKinds10_spec m.c m.m) ?_
 rintro _ _ ⟨aK, cK, rfl, rfl⟩
 simp only [Qs]
 refine Qd rfl rfl (WpL.nil (Qb (Qa (Qc rfl rfl (Qc rfl rfl (Qc rfl rfl (QO rfl rfl (Qi rfl rfl (by repeat' constructor) (Yb _ _ (by omega) (by omega) (by omega)) ?_))))))))
 rintro _ _ ⟨rfl, rfl⟩
 simp only [Qs]
 refine Xg (Q3 kd (Q4 m.c m.m).length).toNat rfl rfl rfl (Q0 (T := 3) (s := 1) (a := aK) (c := cK) (m := (Q4 m.c m.m).length)) (by exact Take.ent' (by repeat' constructor)) (by omega) hix (by rw [Xf]; exact hix) ?_
 refine Xk rfl rfl (Q0 (T := 3) (s := 1) (a := aK) (c := cK) (m := (Q4 m.c m.m).length)) (by exact Take.ent' (by repeat' constructor)) (XA (Q4 m.c m.m) hix) ?_
 refine Qd rfl rfl (WpL.nil (Xb (gr := [(2, _), (6, _), (7, _), (9, _)]) (FrLe.cons rfl (FrLe.cons rfl (FrLe.cons rfl (FrLe.cons rfl FrLe.nil)))) ?_))
 refine Qb (Qa ?_)
 refine Qw (vs := [_, _, _, _, _]) rfl rfl rfl (by rfl) ?_
 refine Qc rfl rfl (Qi rfl rfl (by repeat' constructor) (rWrite10c_spec (QX 92 1 a1 c1 m.px.length (XQ m.px)) m a1 c1 Q0 5 (by omega) hgd _ hkm) ?_)
 rintro _ _ ⟨B, bB, eB, hBr, hBl, rfl, rfl⟩
 simp only [Qs]
 have hwl := wrI_len (by omega) hgd hkm
 have hwb := wrI_byte (by omega) hgd hkm
 have hwp := wrI_4 m (Q4 m.c m.m)[(Q3 kd (Q4 m.c m.m).length).toNat]
 obtain ⟨jj, hpb, hj0, hj1⟩ := par_backI (by omega) hgd hkm
 have hcut := fun h4 n hn => par_cut (by omega) hgd hkm h4 (n := n) hn
 generalize wrI m (Q4 m.c m.m)[(Q3 kd (Q4 m.c m.m).length).toNat] = own1 at *
 refine Qc rfl rfl (QB rfl rfl rfl (QB rfl rfl rfl (Qd rfl rfl (Qd rfl rfl (WpL.nil (Xb (gr := [(2, _), (6, _), (7, _), (9, _), (10, _)]) (FrLe.cons rfl (FrLe.cons rfl (FrLe.cons rfl (FrLe.cons rfl (FrLe.cons rfl FrLe.nil))))) ?_))))))
 refine Qb (Qa (Qd rfl rfl (WpL.nil (Qb (Qb (Qa (Qc rfl rfl (Q8 rfl rfl rfl (WpL.nil (Qj rfl (fun h0 => ?_) (fun h0 => ?_)))))))))))
 ·refine Qa (Qd rfl rfl (WpL.nil (Qb (Qa (Qc rfl rfl (QO rfl rfl (Qc rfl rfl (Yp rfl rfl rfl (Qo (by omega) (by omega)) ?_))))))))
  refine Qc rfl rfl (Qc rfl rfl (QO rfl rfl (Qc rfl rfl (Yp rfl rfl rfl (Qo (by omega) (by omega)) ?_))))
  refine Qi rfl rfl (by repeat' constructor) (Yb _ _ (by omega) (by omega) (by omega)) ?_
  rintro _ _ ⟨rfl, rfl⟩
  simp only [Qs]
  have hap2 := X6 (x := p) (m := (own1.length : Int) - 2) (by omega)
  have hap1 := X6 (x := p) (m := (own1.length : Int) - 1) (by omega)
  refine Yp rfl rfl rfl (Qo (by omega) (by omega)) ?_
  obtain ⟨nn, hnn⟩ := Int.eq_ofNat_of_zero_le (show (0 : Int) ≤ (own1.length : Int) - 2 - Q3 p ((own1.length : Int) - 2) by omega)
  rw [hnn]
  have hnl : nn < own1.length := by omega
  have htA : RdsL [B] bB (Xt (own1.take nn)) := by have q := hBr.take nn; rwa [show (Xt own1).take nn = Xt (own1.take nn) by simp [Xt, List.map_take]] at q
  have htb : ∀ x ∈ own1.take nn, 0 ≤ x ∧ x ≤ 255 := fun x hx => hwb x (List.mem_of_mem_take hx)
  have htl : (own1.take nn).length = nn := by rw [List.length_take]; omega
  have htc : (own1.take nn).length ≤ eB := by omega
  refine Qd rfl rfl (WpL.nil (Xb (gr := [(6, _), (7, _), (9, _), (10, _), (13, _)]) (FrLe.cons rfl (FrLe.cons rfl (FrLe.cons rfl (FrLe.cons rfl (FrLe.cons rfl FrLe.nil))))) ?_))
  refine Qb (Qa (Qc rfl rfl (Qi rfl rfl (by repeat' constructor) (Y5) ?_)))
  rintro _ _ ⟨rfl, rfl⟩
  simp only [Qs]
  refine Qi rfl rfl (by repeat' constructor) (Zy B bB eB own1 hBr hwb hBl (by omega) 4096 65536 65535) ?_
  rintro _ _ ⟨aR, cR, rfl, rfl⟩
  simp only [Qs]
  rw [hpb]
  dsimp only
  refine WpL.ownMax (T := 92) (s := 1) (a := aR) (c := cR) (Take.ent' (by repeat' constructor)) (fun hmx => ?_)
  refine Qc rfl rfl (QB rfl rfl rfl (QB rfl rfl rfl (QB rfl rfl rfl (XH rfl ?_))))
  intro gP
  refine QC rfl rfl rfl (by rfl) rfl ?_
  refine Qd rfl rfl (Qd rfl rfl (WpL.nil (Xb (gr := [(6, _), (7, _), (9, _), (10, _), (13, _), (14, _), (15, _), (16, _)]) (FrLe.cons rfl (FrLe.cons rfl (FrLe.cons rfl (FrLe.cons rfl (FrLe.cons rfl (FrLe.cons rfl (FrLe.cons rfl (FrLe.cons rfl FrLe.nil)))))))) ?_)))
  refine Qb (Qb ?_)
  apply Q9 mixed [⟨61, _, []⟩, ⟨62, _, [0]⟩, ⟨63, _, [1]⟩, ⟨64, _, [2]⟩, ⟨65, _, [2]⟩, ⟨66, _, [4, 2]⟩, ⟨67, _, [5, 2]⟩, ⟨68, _, [3, 6, 2]⟩, ⟨69, _, [2, 7]⟩, ⟨70, _, [8, 2]⟩, ⟨71, _, [9]⟩, ⟨72, _, [10, 9]⟩, ⟨73, _, [9]⟩, ⟨74, _, [11, 12, 9]⟩, ⟨75, _, [13, 9]⟩, ⟨76, _, [9, 14]⟩] rfl
  ·refine AllObs.mk ?_ ?_
   ·exact Qc rfl rfl (Qm rfl)
   refine AllObs.mk ?_ ?_
   ·exact Xq rfl rfl rfl (Qm rfl)
   refine AllObs.mk ?_ ?_
   ·exact Qc rfl rfl (Qm rfl)
   refine AllObs.mk ?_ ?_
   ·refine Qv (dj := 63) rfl (decide_eq_false (fun h => h rfl)) ?_
    exact Qf rfl rfl (Qc rfl rfl (Qm rfl))
   refine AllObs.mk ?_ ?_
   ·refine Qv (dj := 63) rfl (decide_eq_false (fun h => h rfl)) ?_
    exact Qf rfl rfl (Qc rfl rfl (Qm rfl))
   refine AllObs.mk ?_ ?_
   ·refine Qv (dj := 63) rfl (decide_eq_false (fun h => h rfl)) ?_
    exact Qf rfl rfl (QO rfl rfl (WpL.nil ⟨rfl, rfl, rfl, by exact Ent.refl _⟩))
   refine AllObs.mk ?_ ?_
   ·refine Qv (dj := 63) rfl (decide_eq_false (fun h => h rfl)) ?_
    refine Qf rfl rfl (Yp rfl rfl rfl (Qo (by omega) (by omega)) ?_)
    exact Qm rfl
   refine AllObs.mk ?_ ?_
   ·refine Qv (dj := 63) rfl (decide_eq_false (fun h => h rfl)) ?_
    exact Qf rfl rfl (Q8 rfl rfl rfl (Qm rfl))
   refine AllObs.mk ?_ ?_
   ·refine Qv (dj := 63) rfl (decide_eq_false (fun h => h rfl)) ?_
    exact Qt rfl rfl rfl (Qm rfl)
   refine AllObs.mk ?_ ?_
   ·exact Qc rfl rfl (Qm rfl)
   refine AllObs.mk ?_ ?_
   ·refine Qv (dj := 70) rfl (decide_eq_false (by omega)) ?_
    refine Qf rfl rfl ?_
    refine Qw (vs := [_, _, _, _, _]) rfl rfl rfl (by rfl) ?_
    exact Qm rfl
   refine AllObs.mk ?_ ?_
   ·refine Qv (dj := 70) rfl (decide_eq_false (by omega)) ?_
    refine Qf rfl rfl (Qi rfl rfl (by repeat' constructor) (as10_spec m aR cR) ?_)
    rintro _ _ ⟨rfl, rfl⟩
    simp only [Qs]
    exact WpL.nil ⟨rfl, rfl, rfl, by exact Ent.refl _⟩
   refine AllObs.mk ?_ ?_
   ·refine Qv (dj := 70) rfl (decide_eq_false (by omega)) ?_
    refine Qf rfl rfl ?_
    refine Qw (vs := [_, _, _, _, _]) rfl rfl rfl (by rfl) ?_
    exact Qm rfl
   refine AllObs.mk ?_ ?_
   ·refine Qv (dj := 70) rfl (decide_eq_false (by omega)) ?_
    refine Qf rfl rfl (Qi rfl rfl (by repeat' constructor) (Same10_true [QX 92 1 aR cR m.px.length (XQ m.px), QX 92 1 a1 c1 m.px.length (XQ m.px)] m aR a1 cR c1 Q0.head Q0.tail hmx) ?_)
    rintro _ _ ⟨rfl, rfl⟩
    simp only [Qs]
    exact WpL.nil ⟨rfl, rfl, rfl, by exact Take.ent' (by repeat' constructor)⟩
   refine AllObs.mk ?_ ?_
   ·refine Qv (dj := 70) rfl (decide_eq_false (by omega)) ?_
    exact Qf rfl rfl (Zp rfl rfl (Qm rfl))
   refine AllObs.mk ?_ ?_
   ·refine Qv (dj := 70) rfl (decide_eq_false (by omega)) ?_
    exact Qt rfl rfl rfl (Qm rfl)
   exact AllObs.nil
  ·refine QW rfl (Wp.skip (Qb ?_))
   apply YE (fB := []) mixed 9 [(4, false), (4, true)] rfl rfl (by kernel_rfl)
   apply Q7 [⟨0, 78, _, [], false⟩, ⟨1, 79, _, [], false⟩, ⟨2, 80, _, [0, 1], false⟩, ⟨3, 81, _, [], false⟩] [] [0, 1, 2, 3] [77, 83, 84, 85, 17, 18, 19] (.inr rfl) rfl rfl rfl (by kernel_rfl) rfl rfl rfl
   ·refine AllF.cons rfl rfl rfl rfl ?_ ?_
    ·exact Qc rfl rfl (Qm rfl)
    refine AllF.cons rfl rfl rfl rfl ?_ ?_
    ·exact Qc rfl rfl (Qm rfl)
    refine AllF.cons rfl rfl rfl rfl ?_ ?_
    ·refine s_sll_h (H := nn) rfl rfl rfl rfl (by omega) ?_
     rw [← htl]
     exact Qm rfl
    refine AllF.cons rfl rfl rfl rfl ?_ ?_
    ·refine Qi rfl rfl (by repeat' constructor) (Y5) ?_
     rintro _ _ ⟨rfl, rfl⟩
     simp only [Qs]
     exact WpL.nil ⟨rfl, rfl, rfl, by exact Ent.refl _⟩
    exact AllF.nil
   ·refine Qi rfl rfl (by repeat' constructor) (Zy B bB eB (own1.take nn) htA htb htc (by omega) 4096 65536 65535) ?_
    rintro _ _ ⟨aR2, cR2, rfl, rfl⟩
    simp only [Qs]
    refine WpL.nil ⟨rfl, rfl, ?_⟩
    apply YZ [⟨5, 77, _, [4], false⟩, ⟨6, 83, _, [5], false⟩, ⟨7, 84, _, [5], true⟩, ⟨8, 85, _, [5], true⟩] [] [5, 6] [18, 19, 84, 85] (.inl ⟨_, .nil⟩) rfl rfl rfl (by kernel_rfl) rfl rfl rfl rfl
    ·refine AllF.cons rfl rfl rfl rfl ?_ ?_
     ·exact Qc rfl rfl (Qm rfl)
     refine AllF.cons rfl rfl rfl rfl ?_ ?_
     ·exact QB rfl rfl rfl (Qm rfl)
     refine QD rfl rfl rfl rfl ?_ ?_
     ·exact QB rfl rfl rfl (Qm rfl)
     refine QD rfl rfl rfl rfl ?_ ?_
     ·exact QB rfl rfl rfl (Qm rfl)
     exact AllF.nil
    ·intro gQ
     refine QC rfl rfl rfl (by rfl) rfl ?_
     refine WpL.nil ⟨rfl, rfl, ?_⟩
     apply GoR.nil [⟨11, 18, _, [0, 1, 2, 3, 4, 5, 6, 7, 9, 10], false⟩, ⟨12, 19, _, [0, 1, 2, 3, 4, 5, 6, 7, 8, 9, 10, 11], false⟩] (.inl ⟨_, .nil⟩) rfl rfl
     ·refine AllF.cons rfl rfl rfl rfl ?_ ?_
      ·exact Qd rfl rfl (Qm rfl)
      refine AllF.cons rfl rfl rfl rfl ?_ ?_
      ·exact Qd rfl rfl (Qm rfl)
      exact AllF.nil
     ·refine Xb (gr := [(6, _), (9, _), (10, _), (13, _), (19, _)]) (FrLe.cons rfl (FrLe.cons rfl (FrLe.cons rfl (FrLe.cons rfl (FrLe.cons rfl FrLe.nil))))) ?_
      refine Qb ?_
      apply YE (fB := []) mixed 9 [(4, false), (4, true)] rfl rfl (by kernel_rfl)
      apply Q7 [⟨0, 87, _, [], false⟩, ⟨1, 88, _, [], false⟩, ⟨2, 89, _, [0, 1], false⟩, ⟨3, 90, _, [], false⟩] [] [0, 1, 2, 3] [86, 92, 93, 94, 20, 21, 22] (.inr rfl) rfl rfl rfl (by kernel_rfl) rfl rfl rfl
      ·refine AllF.cons rfl rfl rfl rfl ?_ ?_
       ·exact Qc rfl rfl (Qm rfl)
       refine AllF.cons rfl rfl rfl rfl ?_ ?_
       ·exact Qc rfl rfl (Qm rfl)
       refine AllF.cons rfl rfl rfl rfl ?_ ?_
       ·refine s_sll_h (H := nn) rfl rfl rfl rfl (by omega) ?_
        rw [← htl]
        exact Qm rfl
       refine AllF.cons rfl rfl rfl rfl ?_ ?_
       ·refine Qi rfl rfl (by repeat' constructor) (Y5) ?_
        rintro _ _ ⟨rfl, rfl⟩
        simp only [Qs]
        exact WpL.nil ⟨rfl, rfl, rfl, by exact Ent.refl _⟩
       exact AllF.nil
      ·refine Qi rfl rfl (by repeat' constructor) (rParse10_spec B bB eB (own1.take nn) htA htb htc (by omega) 4096 65536 65535) ?_
       rintro _ _ ⟨aR3, cR3, rfl, rfl⟩
       simp only [Qs]
       refine WpL.nil ⟨rfl, rfl, ?_⟩
       apply YZ [⟨5, 86, _, [4], false⟩, ⟨6, 92, _, [5], false⟩, ⟨7, 93, _, [5], true⟩, ⟨8, 94, _, [5], true⟩] [] [5, 6] [21, 22, 93, 94] (.inl ⟨_, .nil⟩) rfl rfl rfl (by kernel_rfl) rfl rfl rfl rfl
       ·refine AllF.cons rfl rfl rfl rfl ?_ ?_
        ·exact Qc rfl rfl (Qm rfl)
        refine AllF.cons rfl rfl rfl rfl ?_ ?_
        ·exact QB rfl rfl rfl (Qm rfl)
        refine QD rfl rfl rfl rfl ?_ ?_
        ·exact QB rfl rfl rfl (Qm rfl)
        refine QD rfl rfl rfl rfl ?_ ?_
        ·exact QB rfl rfl rfl (Qm rfl)
        exact AllF.nil
       ·intro gR
        refine QC rfl rfl rfl (by rfl) rfl ?_
        refine WpL.nil ⟨rfl, rfl, ?_⟩
        apply GoR.nil [⟨11, 21, _, [0, 1, 2, 3, 4, 5, 6, 7, 9, 10], false⟩, ⟨12, 22, _, [0, 1, 2, 3, 4, 5, 6, 7, 8, 9, 10, 11], false⟩] (.inl ⟨_, .nil⟩) rfl rfl
        ·refine AllF.cons rfl rfl rfl rfl ?_ ?_
         ·exact Qd rfl rfl (Qm rfl)
         refine AllF.cons rfl rfl rfl rfl ?_ ?_
         ·exact Qd rfl rfl (Qm rfl)
         exact AllF.nil
        ·refine Qb (Qa (Qc rfl rfl (Qc rfl rfl (QH rfl rfl rfl (Qc rfl rfl (Qx (dj := 98) rfl (decide_eq_true rfl) ?_))))))
         refine Qf rfl rfl (Qc rfl rfl (Qf rfl rfl (Q8 rfl rfl rfl (Qf rfl rfl (Qc rfl rfl (Qx (dj := 101) rfl (decide_eq_true (by assumption)) ?_))))))
         refine Qe rfl rfl rfl (by decide) (Qe rfl rfl rfl (by decide) (Qf rfl rfl (Qr rfl rfl rfl (Qr rfl rfl rfl (Qc rfl rfl (Qf rfl rfl (Qi rfl rfl (by repeat' constructor) (lives10_spec) ?_)))))))
         rintro _ _ ⟨rfl, rfl⟩
         simp only [Qs]
         refine Qr rfl rfl rfl (Qd rfl rfl (WpL.nil (Qh ?_)))
         apply RetQ.mk
         ·exact (Res.one rfl rfl)
         ·exact ⟨rfl, rfl⟩
         ·exact Take.ent' (by repeat' constructor)
 ·refine Wp.skip (Qb (Qa (Qc rfl rfl (QO rfl rfl (Qc rfl rfl (Yp rfl rfl rfl (Qo (by omega) (by omega)) ?_))))))
  refine Qc rfl rfl (Qc rfl rfl (QO rfl rfl (Qc rfl rfl (Yp rfl rfl rfl (Qo (by omega) (by omega)) ?_))))
  refine Qi rfl rfl (by repeat' constructor) (Yb _ _ (by omega) (by omega) (by omega)) ?_
  rintro _ _ ⟨rfl, rfl⟩
  simp only [Qs]
  have hap2 := X6 (x := p) (m := (own1.length : Int) - 2) (by omega)
  have hap1 := X6 (x := p) (m := (own1.length : Int) - 1) (by omega)
  refine Yp rfl rfl rfl (Qo (by omega) (by omega)) ?_
  obtain ⟨nn, hnn⟩ := Int.eq_ofNat_of_zero_le (show (0 : Int) ≤ (own1.length : Int) - 1 - Q3 p ((own1.length : Int) - 1) by omega)
  rw [hnn]
  have hnl : nn < own1.length := by omega
  have htA : RdsL [B] bB (Xt (own1.take nn)) := by have q := hBr.take nn; rwa [show (Xt own1).take nn = Xt (own1.take nn) by simp [Xt, List.map_take]] at q
  have htb : ∀ x ∈ own1.take nn, 0 ≤ x ∧ x ≤ 255 := fun x hx => hwb x (List.mem_of_mem_take hx)
  have htl : (own1.take nn).length = nn := by rw [List.length_take]; omega
  have htc : (own1.take nn).length ≤ eB := by omega
  refine Qd rfl rfl (WpL.nil (Xb (gr := [(6, _), (7, _), (9, _), (10, _), (13, _)]) (FrLe.cons rfl (FrLe.cons rfl (FrLe.cons rfl (FrLe.cons rfl (FrLe.cons rfl FrLe.nil))))) ?_))
  refine Qb (Qa (Qc rfl rfl (Qi rfl rfl (by repeat' constructor) (Y5) ?_)))
  rintro _ _ ⟨rfl, rfl⟩
  simp only [Qs]
  refine Qi rfl rfl (by repeat' constructor) (Zy B bB eB own1 hBr hwb hBl (by omega) 4096 65536 65535) ?_
  rintro _ _ ⟨aR, cR, rfl, rfl⟩
  simp only [Qs]
  rw [hpb]
  dsimp only
  refine WpL.ownMax (T := 92) (s := 1) (a := aR) (c := cR) (Take.ent' (by repeat' constructor)) (fun hmx => ?_)
  refine Qc rfl rfl (QB rfl rfl rfl (QB rfl rfl rfl (QB rfl rfl rfl (XH rfl ?_))))
  intro gP
  refine QC rfl rfl rfl (by rfl) rfl ?_
  refine Qd rfl rfl (Qd rfl rfl (WpL.nil (Xb (gr := [(6, _), (7, _), (9, _), (10, _), (13, _), (14, _), (15, _), (16, _)]) (FrLe.cons rfl (FrLe.cons rfl (FrLe.cons rfl (FrLe.cons rfl (FrLe.cons rfl (FrLe.cons rfl (FrLe.cons rfl (FrLe.cons rfl FrLe.nil)))))))) ?_)))
  refine Qb (Qb ?_)
  apply Q9 mixed [⟨61, _, []⟩, ⟨62, _, [0]⟩, ⟨63, _, [1]⟩, ⟨64, _, [2]⟩, ⟨65, _, [2]⟩, ⟨66, _, [4, 2]⟩, ⟨67, _, [5, 2]⟩, ⟨68, _, [3, 6, 2]⟩, ⟨69, _, [2, 7]⟩, ⟨70, _, [8, 2]⟩, ⟨71, _, [9]⟩, ⟨72, _, [10, 9]⟩, ⟨73, _, [9]⟩, ⟨74, _, [11, 12, 9]⟩, ⟨75, _, [13, 9]⟩, ⟨76, _, [9, 14]⟩] rfl
  ·refine AllObs.mk ?_ ?_
   ·exact Qc rfl rfl (Qm rfl)
   refine AllObs.mk ?_ ?_
   ·exact Xq rfl rfl rfl (Qm rfl)
   refine AllObs.mk ?_ ?_
   ·exact Qc rfl rfl (Qm rfl)
   refine AllObs.mk ?_ ?_
   ·refine Qv (dj := 63) rfl (decide_eq_false (fun h => h rfl)) ?_
    exact Qf rfl rfl (Qc rfl rfl (Qm rfl))
   refine AllObs.mk ?_ ?_
   ·refine Qv (dj := 63) rfl (decide_eq_false (fun h => h rfl)) ?_
    exact Qf rfl rfl (Qc rfl rfl (Qm rfl))
   refine AllObs.mk ?_ ?_
   ·refine Qv (dj := 63) rfl (decide_eq_false (fun h => h rfl)) ?_
    exact Qf rfl rfl (QO rfl rfl (WpL.nil ⟨rfl, rfl, rfl, by exact Ent.refl _⟩))
   refine AllObs.mk ?_ ?_
   ·refine Qv (dj := 63) rfl (decide_eq_false (fun h => h rfl)) ?_
    refine Qf rfl rfl (Yp rfl rfl rfl (Qo (by omega) (by omega)) ?_)
    exact Qm rfl
   refine AllObs.mk ?_ ?_
   ·refine Qv (dj := 63) rfl (decide_eq_false (fun h => h rfl)) ?_
    exact Qf rfl rfl (Q8 rfl rfl rfl (Qm rfl))
   refine AllObs.mk ?_ ?_
   ·refine Qv (dj := 63) rfl (decide_eq_false (fun h => h rfl)) ?_
    exact Qt rfl rfl rfl (Qm rfl)
   refine AllObs.mk ?_ ?_
   ·exact Qc rfl rfl (Qm rfl)
   refine AllObs.mk ?_ ?_
   ·refine Qv (dj := 70) rfl (decide_eq_false (by omega)) ?_
    refine Qf rfl rfl ?_
    refine Qw (vs := [_, _, _, _, _]) rfl rfl rfl (by rfl) ?_
    exact Qm rfl
   refine AllObs.mk ?_ ?_
   ·refine Qv (dj := 70) rfl (decide_eq_false (by omega)) ?_
    refine Qf rfl rfl (Qi rfl rfl (by repeat' constructor) (as10_spec m aR cR) ?_)
    rintro _ _ ⟨rfl, rfl⟩
    simp only [Qs]
    exact WpL.nil ⟨rfl, rfl, rfl, by exact Ent.refl _⟩
   refine AllObs.mk ?_ ?_
   ·refine Qv (dj := 70) rfl (decide_eq_false (by omega)) ?_
    refine Qf rfl rfl ?_
    refine Qw (vs := [_, _, _, _, _]) rfl rfl rfl (by rfl) ?_
    exact Qm rfl
   refine AllObs.mk ?_ ?_
   ·refine Qv (dj := 70) rfl (decide_eq_false (by omega)) ?_
    refine Qf rfl rfl (Qi rfl rfl (by repeat' constructor) (Same10_true [QX 92 1 aR cR m.px.length (XQ m.px), QX 92 1 a1 c1 m.px.length (XQ m.px)] m aR a1 cR c1 Q0.head Q0.tail hmx) ?_)
    rintro _ _ ⟨rfl, rfl⟩
    simp only [Qs]
    exact WpL.nil ⟨rfl, rfl, rfl, by exact Take.ent' (by repeat' constructor)⟩
   refine AllObs.mk ?_ ?_
   ·refine Qv (dj := 70) rfl (decide_eq_false (by omega)) ?_
    exact Qf rfl rfl (Zp rfl rfl (Qm rfl))
   refine AllObs.mk ?_ ?_
   ·refine Qv (dj := 70) rfl (decide_eq_false (by omega)) ?_
    exact Qt rfl rfl rfl (Qm rfl)
   exact AllObs.nil
  ·refine QW rfl (Wp.skip (Qb ?_))
   apply YE (fB := []) mixed 9 [(4, false), (4, true)] rfl rfl (by kernel_rfl)
   apply Q7 [⟨0, 78, _, [], false⟩, ⟨1, 79, _, [], false⟩, ⟨2, 80, _, [0, 1], false⟩, ⟨3, 81, _, [], false⟩] [] [0, 1, 2, 3] [77, 83, 84, 85, 17, 18, 19] (.inr rfl) rfl rfl rfl (by kernel_rfl) rfl rfl rfl
   ·refine AllF.cons rfl rfl rfl rfl ?_ ?_
    ·exact Qc rfl rfl (Qm rfl)
    refine AllF.cons rfl rfl rfl rfl ?_ ?_
    ·exact Qc rfl rfl (Qm rfl)
    refine AllF.cons rfl rfl rfl rfl ?_ ?_
    ·refine s_sll_h (H := nn) rfl rfl rfl rfl (by omega) ?_
     rw [← htl]
     exact Qm rfl
    refine AllF.cons rfl rfl rfl rfl ?_ ?_
    ·refine Qi rfl rfl (by repeat' constructor) (Y5) ?_
     rintro _ _ ⟨rfl, rfl⟩
     simp only [Qs]
     exact WpL.nil ⟨rfl, rfl, rfl, by exact Ent.refl _⟩
    exact AllF.nil
   ·refine Qi rfl rfl (by repeat' constructor) (Zy B bB eB (own1.take nn) htA htb htc (by omega) 4096 65536 65535) ?_
    rintro _ _ ⟨aR2, cR2, rfl, rfl⟩
    simp only [Qs]
    refine WpL.nil ⟨rfl, rfl, ?_⟩
    apply YZ [⟨5, 77, _, [4], false⟩, ⟨6, 83, _, [5], false⟩, ⟨7, 84, _, [5], true⟩, ⟨8, 85, _, [5], true⟩] [] [5, 6] [18, 19, 84, 85] (.inl ⟨_, .nil⟩) rfl rfl rfl (by kernel_rfl) rfl rfl rfl rfl
    ·refine AllF.cons rfl rfl rfl rfl ?_ ?_
     ·exact Qc rfl rfl (Qm rfl)
     refine AllF.cons rfl rfl rfl rfl ?_ ?_
     ·exact QB rfl rfl rfl (Qm rfl)
     refine QD rfl rfl rfl rfl ?_ ?_
     ·exact QB rfl rfl rfl (Qm rfl)
     refine QD rfl rfl rfl rfl ?_ ?_
     ·exact QB rfl rfl rfl (Qm rfl)
     exact AllF.nil
    ·intro gQ
     refine QC rfl rfl rfl (by rfl) rfl ?_
     refine WpL.nil ⟨rfl, rfl, ?_⟩
     apply GoR.nil [⟨11, 18, _, [0, 1, 2, 3, 4, 5, 6, 7, 9, 10], false⟩, ⟨12, 19, _, [0, 1, 2, 3, 4, 5, 6, 7, 8, 9, 10, 11], false⟩] (.inl ⟨_, .nil⟩) rfl rfl
     ·refine AllF.cons rfl rfl rfl rfl ?_ ?_
      ·exact Qd rfl rfl (Qm rfl)
      refine AllF.cons rfl rfl rfl rfl ?_ ?_
      ·exact Qd rfl rfl (Qm rfl)
      exact AllF.nil
     ·refine Xb (gr := [(6, _), (9, _), (10, _), (13, _), (19, _)]) (FrLe.cons rfl (FrLe.cons rfl (FrLe.cons rfl (FrLe.cons rfl (FrLe.cons rfl FrLe.nil))))) ?_
      refine Qb ?_
      apply YE (fB := []) mixed 9 [(4, false), (4, true)] rfl rfl (by kernel_rfl)
      apply Q7 [⟨0, 87, _, [], false⟩, ⟨1, 88, _, [], false⟩, ⟨2, 89, _, [0, 1], false⟩, ⟨3, 90, _, [], false⟩] [] [0, 1, 2, 3] [86, 92, 93, 94, 20, 21, 22] (.inr rfl) rfl rfl rfl (by kernel_rfl) rfl rfl rfl
      ·refine AllF.cons rfl rfl rfl rfl ?_ ?_
       ·exact Qc rfl rfl (Qm rfl)
       refine AllF.cons rfl rfl rfl rfl ?_ ?_
       ·exact Qc rfl rfl (Qm rfl)
       refine AllF.cons rfl rfl rfl rfl ?_ ?_
       ·refine s_sll_h (H := nn) rfl rfl rfl rfl (by omega) ?_
        rw [← htl]
        exact Qm rfl
       refine AllF.cons rfl rfl rfl rfl ?_ ?_
       ·refine Qi rfl rfl (by repeat' constructor) (Y5) ?_
        rintro _ _ ⟨rfl, rfl⟩
        simp only [Qs]
        exact WpL.nil ⟨rfl, rfl, rfl, by exact Ent.refl _⟩
       exact AllF.nil
      ·refine Qi rfl rfl (by repeat' constructor) (rParse10_spec B bB eB (own1.take nn) htA htb htc (by omega) 4096 65536 65535) ?_
       rintro _ _ ⟨aR3, cR3, rfl, rfl⟩
       simp only [Qs]
       refine WpL.nil ⟨rfl, rfl, ?_⟩
       apply YZ [⟨5, 86, _, [4], false⟩, ⟨6, 92, _, [5], false⟩, ⟨7, 93, _, [5], true⟩, ⟨8, 94, _, [5], true⟩] [] [5, 6] [21, 22, 93, 94] (.inl ⟨_, .nil⟩) rfl rfl rfl (by kernel_rfl) rfl rfl rfl rfl
       ·refine AllF.cons rfl rfl rfl rfl ?_ ?_
        ·exact Qc rfl rfl (Qm rfl)
        refine AllF.cons rfl rfl rfl rfl ?_ ?_
        ·exact QB rfl rfl rfl (Qm rfl)
        refine QD rfl rfl rfl rfl ?_ ?_
        ·exact QB rfl rfl rfl (Qm rfl)
        refine QD rfl rfl rfl rfl ?_ ?_
        ·exact QB rfl rfl rfl (Qm rfl)
        exact AllF.nil
       ·intro gR
        refine QC rfl rfl rfl (by rfl) rfl ?_
        refine WpL.nil ⟨rfl, rfl, ?_⟩
        apply GoR.nil [⟨11, 21, _, [0, 1, 2, 3, 4, 5, 6, 7, 9, 10], false⟩, ⟨12, 22, _, [0, 1, 2, 3, 4, 5, 6, 7, 8, 9, 10, 11], false⟩] (.inl ⟨_, .nil⟩) rfl rfl
        ·refine AllF.cons rfl rfl rfl rfl ?_ ?_
         ·exact Qd rfl rfl (Qm rfl)
         refine AllF.cons rfl rfl rfl rfl ?_ ?_
         ·exact Qd rfl rfl (Qm rfl)
         exact AllF.nil
        ·refine Qb (Qa (Qc rfl rfl (Qc rfl rfl (QH rfl rfl rfl (Qc rfl rfl (Qx (dj := 98) rfl (decide_eq_true rfl) ?_))))))
         refine Qf rfl rfl (Qc rfl rfl (Qf rfl rfl (Q8 rfl rfl rfl (Qf rfl rfl (Qc rfl rfl (Qv (dj := 101) rfl (decide_eq_false (by assumption)) ?_))))))
         refine Qf rfl rfl (Qc rfl rfl (Qf rfl rfl (QH rfl rfl rfl (Qf rfl rfl (Qt rfl rfl rfl (Qr rfl rfl rfl (Qc rfl rfl (Qx (dj := 106) rfl (decide_eq_true (hcut (by assumption) nn hnl)) ?_))))))))
         refine Qf rfl rfl (Qi rfl rfl (by repeat' constructor) (lives10_spec) ?_)
         rintro _ _ ⟨rfl, rfl⟩
         simp only [Qs]
         refine Qr rfl rfl rfl (Qd rfl rfl (WpL.nil (Qh ?_)))
         apply RetQ.mk
         ·exact (Res.one rfl rfl)
         ·exact ⟨rfl, rfl⟩
         ·exact Take.ent' (by repeat' constructor)

end Go.Proofs.YtggamdlpiejbiaaGreat
