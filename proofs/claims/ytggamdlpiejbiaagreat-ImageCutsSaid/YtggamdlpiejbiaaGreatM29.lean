/- Walks and plain laws, a part of the proof of ImageCuts: every input that the law's guards let in, no condition beside. -/
import Derived.Test.YtggamdlpiejbiaaGreatM28
namespace Go.Proofs.YtggamdlpiejbiaaGreat
open Go.RowKit Go.Shelf

set_option maxHeartbeats 1000000 in
theorem rParse10_spec (A0 : HP) (a0 : Option Addr) (c0 : Nat) (bs : List Int) (hA : RdsL [A0] a0 (Xt bs)) (hbs : ∀ x ∈ bs, 0 ≤ x ∧ x ≤ 255) (hc0 : bs.length ≤ c0) (hbl : bs.length ≤ 1000000000) (a b d : Int) : Fn Tryz.prog 39 #[.slice a0 bs.length c0, .agg #[.int .i64 a, .int .i64 b, .int .i64 d]] [A0] (fun v l => ∃ aR cR, v = .tuple #[.agg #[.int .i64 (Yu (QS a) (QT b) (QU d) bs).1.c, .int .i64 (Yu (QS a) (QT b) (QU d) bs).1.m, .int .i64 (Yu (QS a) (QT b) (QU d) bs).1.w, .int .i64 (Yu (QS a) (QT b) (QU d) bs).1.h, .slice aR (Yu (QS a) (QT b) (QU d) bs).1.px.length cR], .int .i64 (Yu (QS a) (QT b) (QU d) bs).2.1, .int .i64 (Yu (QS a) (QT b) (QU d) bs).2.2] ∧ l = [QX 92 1 aR cR (Yu (QS a) (QT b) (QU d) bs).1.px.length (XQ (Yu (QS a) (QT b) (QU d) bs).1.px), A0]) := by
 obtain ⟨⟨⟨K, W, H, M⟩, n, e⟩, hPd⟩ : ∃ P, XW (QS a) (QT b) (QU d) bs = P := ⟨_, rfl⟩
 have hok := hdP_ok (QS a) (QT b) (QU d) (lim_o a b d) bs
 rw [hPd] at hok
 dsimp only at hok
 obtain ⟨nn, rfl⟩ := Int.eq_ofNat_of_zero_le hok.2.1
 have hnl : nn ≤ bs.length := by omega
 have hAy : RdsL [A0] (sla a0 nn c0 1) (Xt (bs.drop nn)) := by have q := hA.sla nn bs.length c0 1 hc0; rwa [u8s_from] at q
 have hbd : ∀ x ∈ bs.drop nn, 0 ≤ x ∧ x ≤ 255 := fun x hx => hbs x (List.mem_of_mem_drop hx)
 have hdl : (bs.drop nn).length = bs.length - nn := List.length_drop
 refine Ql (vs := [.slice a0 bs.length c0, .agg #[.int .i64 a, .int .i64 b, .int .i64 d]]) Tryz.func39 rfl Tryz.ntmps39 rfl (Qb (Qa (Q2 rfl rfl rfl ?_)))
 intro gB
 refine XH rfl ?_
 intro gM
 refine Qd rfl rfl (Qd rfl rfl (WpL.nil (Qb (Qa (Qc rfl rfl (s_b2sR rfl Tryz.underlying22 Tryz.underlying5 Tryz.underlying9 rfl hA (by exact Take.ent' (by repeat' constructor)) rfl ?_))))))
 refine Qw (vs := [_, _, _]) rfl rfl rfl (by rfl) ?_
 refine Qi rfl rfl (by repeat' constructor) (rParse_alt a b d bs hbs hbl hPd) ?_
 intro v0 m0 hN0
 rcases hN0 with ⟨hE, rfl, rfl⟩ | ⟨hE, rfl, rfl⟩
 ·simp only [Qs]
  subst hE
  have hMay := hok.1 rfl
  have hM2 := hMay
  unfold XG at hM2
  obtain ⟨Wn, rfl⟩ := Int.eq_ofNat_of_zero_le (show 0 ≤ W by omega)
  obtain ⟨Hn, rfl⟩ := Int.eq_ofNat_of_zero_le (show 0 ≤ H by omega)
  have hsb := XB (K := K) (W := Wn) (Q1 M) (by omega) (by omega)
  have hsz : QE K Wn (Qg M) * Hn ≤ 24576 * 65536 := Nat.mul_le_mul hsb.2 (by omega)
  refine Qc rfl rfl (QB rfl rfl rfl (QB rfl rfl rfl (QB rfl rfl rfl (XH rfl ?_))))
  intro gH
  refine QC rfl rfl rfl (by rfl) rfl ?_
  refine Qd rfl rfl (Qd rfl rfl (WpL.nil (Qb (Qb (Qa (Qc rfl rfl (Xq rfl rfl rfl (WpL.nil (Qz rfl (fun h => h rfl) ?_)))))))))
  refine Wp.skip (Qb (Qb (Qa (Qk (o2 := 0) rfl rfl rfl (Qn rfl rfl (by rfl) ?_)))))
  refine Q8 rfl rfl rfl (WpL.nil (Qj rfl (fun h1 => ?_) (fun h1 => ?_)))
  ·refine Qb ?_
   apply Xe (fB := []) mixed [(5, false)] (by kernel_rfl)
   apply Q7 [⟨0, 31, _, [], false⟩, ⟨1, 32, _, [], false⟩, ⟨2, 33, _, [0, 1], false⟩, ⟨3, 34, _, [2], false⟩, ⟨4, 35, _, [], false⟩] [] [0, 1, 2, 3, 4] [30, 37, 38, 39, 10, 11, 12] (.inr rfl) rfl rfl rfl (by kernel_rfl) rfl rfl rfl
   ·refine AllF.cons rfl rfl rfl rfl ?_ ?_
    ·exact Qc rfl rfl (Qm rfl)
    refine AllF.cons rfl rfl rfl rfl ?_ ?_
    ·exact Qc rfl rfl (Qm rfl)
    refine AllF.cons rfl rfl rfl rfl ?_ ?_
    ·refine Z9 (L := nn) rfl rfl rfl (by omega) (by omega) ?_
     rw [show bs.length - nn = (bs.drop nn).length from List.length_drop.symm]
     exact Qm rfl
    refine AllF.cons rfl rfl rfl rfl ?_ ?_
    ·refine s_b2sR rfl Tryz.underlying22 Tryz.underlying5 Tryz.underlying9 rfl hAy (by exact Take.ent' (by repeat' constructor)) rfl ?_
     exact Qm rfl
    refine AllF.cons rfl rfl rfl rfl ?_ ?_
    ·refine Qw (vs := [_, _, _, _]) rfl rfl rfl (by rfl) ?_
     exact Qm rfl
    exact AllF.nil
   ·refine Qi rfl rfl (by repeat' constructor) (rRead_spec (strOfNums (bs.drop nn)) (by rw [YF]; omega) K (Wn : Int) (Hn : Int) M) ?_
    rintro _ _ ⟨out, i, x, a3, c3, hrd, rfl, rfl⟩
    simp only [Qs]
    rw [Yj hbd] at hrd
    have hib := readS_i (K := K) (W := (Wn : Int)) (H := (Hn : Int)) (M := M) (bs.drop nn)
    rw [← hrd] at hib
    dsimp only at hib
    refine WpL.nil ⟨rfl, rfl, ?_⟩
    apply GoR.nil [⟨6, 30, _, [5], false⟩, ⟨7, 37, _, [6], false⟩, ⟨8, 38, _, [6], false⟩, ⟨9, 39, _, [6], false⟩, ⟨10, 10, _, [0, 1, 2, 3, 4, 5, 6, 7], false⟩, ⟨11, 11, _, [0, 1, 2, 3, 4, 5, 6, 7, 8, 10], false⟩, ⟨12, 12, _, [0, 1, 2, 3, 4, 5, 6, 7, 8, 9, 10, 11], false⟩] (.inr rfl) rfl rfl
    ·refine AllF.cons rfl rfl rfl rfl ?_ ?_
     ·exact Qc rfl rfl (Qm rfl)
     refine AllF.cons rfl rfl rfl rfl ?_ ?_
     ·exact QB rfl rfl rfl (Qm rfl)
     refine AllF.cons rfl rfl rfl rfl ?_ ?_
     ·exact QB rfl rfl rfl (Qm rfl)
     refine AllF.cons rfl rfl rfl rfl ?_ ?_
     ·exact QB rfl rfl rfl (Qm rfl)
     refine AllF.cons rfl rfl rfl rfl ?_ ?_
     ·exact Qd rfl rfl (Qm rfl)
     refine AllF.cons rfl rfl rfl rfl ?_ ?_
     ·exact Qd rfl rfl (Qm rfl)
     refine AllF.cons rfl rfl rfl rfl ?_ ?_
     ·exact Qd rfl rfl (Qm rfl)
     exact AllF.nil
    ·refine Qb (Qb (Qa (Qc rfl rfl (Xq rfl rfl rfl (WpL.nil (Qj rfl (fun h2 => ?_) (fun h2 => ?_)))))))
     ·refine Qb (Qa ?_)
      refine Xu rfl rfl ?_
      refine Qc rfl rfl ?_
      refine QC rfl rfl rfl (by rfl) rfl ?_
      refine Qd rfl rfl (Qd rfl rfl (WpL.nil (Qh ?_)))
      apply RetQ.mk
      ·exact (QL rfl rfl (by rfl) rfl rfl)
      ·exact ⟨none, 0, by rw [parF_pe hPd (by omega) (by simpa using hrd.symm) (by assumption)]; rfl, rfl⟩
      ·rw [parF_pe hPd (by omega) (by simpa using hrd.symm) (by assumption)]
       exact Ent.own_nil (Take.ent' (by repeat' constructor))
     ·obtain rfl : x = 0 := Classical.not_not.1 h2
      refine Wp.skip (Qb ?_)
      apply Xe (fB := []) mixed [(12, false)] (by kernel_rfl)
      apply Q7 [⟨0, 44, _, [], false⟩, ⟨1, 45, _, [0], false⟩, ⟨2, 46, _, [], false⟩, ⟨3, 47, _, [2], false⟩, ⟨4, 48, _, [], false⟩, ⟨5, 49, _, [4], false⟩, ⟨6, 50, _, [], false⟩, ⟨7, 51, _, [3, 5, 6], false⟩, ⟨8, 52, _, [1, 7], false⟩, ⟨9, 53, _, [], true⟩, ⟨10, 54, _, [], true⟩, ⟨11, 55, _, [9, 10], true⟩] [] [0, 1, 2, 3, 4, 5, 6, 7, 8] [5, 6, 53, 54, 55] (.inl ⟨_, .nil⟩) rfl rfl rfl (by kernel_rfl) rfl rfl rfl
      ·refine AllF.cons rfl rfl rfl rfl ?_ ?_
       ·refine Qw (vs := [_, _, _, _]) rfl rfl rfl (by rfl) ?_
        exact Qm rfl
       refine AllF.cons rfl rfl rfl rfl ?_ ?_
       ·refine Qi rfl rfl (by repeat' constructor) (ZF _ _ _ _ (by omega) (by omega)) ?_
        rintro _ _ ⟨rfl, rfl⟩
        simp only [Qs]
        exact WpL.nil ⟨rfl, rfl, rfl, by exact Ent.refl _⟩
       refine AllF.cons rfl rfl rfl rfl ?_ ?_
       ·exact Qk (o2 := 1) rfl rfl rfl (Qm rfl)
       refine AllF.cons rfl rfl rfl rfl ?_ ?_
       ·refine Qn rfl rfl (by rfl) ?_
        exact Qm rfl
       refine AllF.cons rfl rfl rfl rfl ?_ ?_
       ·exact Qk (o2 := 2) rfl rfl rfl (Qm rfl)
       refine AllF.cons rfl rfl rfl rfl ?_ ?_
       ·refine Qn rfl rfl (by rfl) ?_
        exact Qm rfl
       refine AllF.cons rfl rfl rfl rfl ?_ ?_
       ·exact Qc rfl rfl (Qm rfl)
       refine AllF.cons rfl rfl rfl rfl ?_ ?_
       ·refine Xu rfl rfl ?_
        exact Qm rfl
       refine AllF.cons rfl rfl rfl rfl ?_ ?_
       ·refine Xu rfl rfl ?_
        exact Qm rfl
       refine QD rfl rfl rfl rfl ?_ ?_
       ·exact Qc rfl rfl (Qm rfl)
       refine QD rfl rfl rfl rfl ?_ ?_
       ·exact Qc rfl rfl (Qm rfl)
       refine QD rfl rfl rfl rfl ?_ ?_
       ·refine QA rfl rfl rfl (Qo (by omega) (by omega)) ?_
        exact Qm rfl
       exact AllF.nil
      ·refine QC rfl rfl rfl (by rfl) rfl ?_
       refine WpL.nil ⟨rfl, rfl, ?_⟩
       apply GoR.nil [⟨13, 5, _, [0, 1, 2, 3, 4, 5, 6, 7, 8, 9, 10, 11, 12], false⟩, ⟨14, 6, _, [0, 1, 2, 3, 4, 5, 6, 7, 8, 9, 10, 11, 12, 13], false⟩] (.inl ⟨_, .nil⟩) rfl rfl
       ·refine AllF.cons rfl rfl rfl rfl ?_ ?_
        ·exact Qd rfl rfl (Qm rfl)
        refine AllF.cons rfl rfl rfl rfl ?_ ?_
        ·exact Qd rfl rfl (Qm rfl)
        exact AllF.nil
       ·refine Qh ?_
        apply RetQ.mk
        ·exact (QL rfl rfl (by rfl) rfl rfl)
        ·exact ⟨a3, c3, by rw [parF_p (out := out) (i := i) hPd (by omega) (by simpa using hrd.symm)]; try rfl, rfl⟩
        ·rw [parF_p (out := out) (i := i) hPd (by omega) (by simpa using hrd.symm)]
         exact Take.ent' (by repeat' constructor)
  ·refine Wp.skip (Qb ?_)
   apply Xe (fB := []) mixed [(4, false)] (by kernel_rfl)
   apply Q7 [⟨0, 57, _, [], false⟩, ⟨1, 58, _, [], false⟩, ⟨2, 59, _, [0, 1], false⟩, ⟨3, 60, _, [], false⟩] [] [0, 1, 2, 3] [56, 62, 63, 13, 14] (.inr rfl) rfl rfl rfl (by kernel_rfl) rfl rfl rfl
   ·refine AllF.cons rfl rfl rfl rfl ?_ ?_
    ·exact Qc rfl rfl (Qm rfl)
    refine AllF.cons rfl rfl rfl rfl ?_ ?_
    ·exact Qc rfl rfl (Qm rfl)
    refine AllF.cons rfl rfl rfl rfl ?_ ?_
    ·refine Z9 (L := nn) rfl rfl rfl (by omega) (by omega) ?_
     rw [show bs.length - nn = (bs.drop nn).length from List.length_drop.symm]
     exact Qm rfl
    refine AllF.cons rfl rfl rfl rfl ?_ ?_
    ·refine Qw (vs := [_, _, _, _]) rfl rfl rfl (by rfl) ?_
     exact Qm rfl
    exact AllF.nil
   ·refine Qi rfl rfl (by repeat' constructor) (rRead09_spec A0 (sla a0 nn c0 1) (c0 - nn) (bs.drop nn) hAy hbd (by omega) (by omega) K Wn Hn M ⟨hMay, by omega⟩) ?_
    rintro _ _ ⟨out, er, a3, c3, hrd, rfl, rfl⟩
    simp only [Qs]
    refine WpL.nil ⟨rfl, rfl, ?_⟩
    apply GoR.nil [⟨5, 56, _, [4], false⟩, ⟨6, 62, _, [5], false⟩, ⟨7, 63, _, [5], false⟩, ⟨8, 13, _, [0, 1, 2, 3, 4, 5, 6], false⟩, ⟨9, 14, _, [0, 1, 2, 3, 4, 5, 6, 7, 8], false⟩] (.inr rfl) rfl rfl
    ·refine AllF.cons rfl rfl rfl rfl ?_ ?_
     ·exact Qc rfl rfl (Qm rfl)
     refine AllF.cons rfl rfl rfl rfl ?_ ?_
     ·exact QB rfl rfl rfl (Qm rfl)
     refine AllF.cons rfl rfl rfl rfl ?_ ?_
     ·exact QB rfl rfl rfl (Qm rfl)
     refine AllF.cons rfl rfl rfl rfl ?_ ?_
     ·exact Qd rfl rfl (Qm rfl)
     refine AllF.cons rfl rfl rfl rfl ?_ ?_
     ·exact Qd rfl rfl (Qm rfl)
     exact AllF.nil
    ·refine Qb (Qb (Qa (Qc rfl rfl (Xq rfl rfl rfl (WpL.nil (Qj rfl (fun h3 => ?_) (fun h3 => ?_)))))))
     ·refine Qb (Qa ?_)
      refine Xu rfl rfl ?_
      refine Qc rfl rfl ?_
      refine QC rfl rfl rfl (by rfl) rfl ?_
      refine Qd rfl rfl (Qd rfl rfl (WpL.nil (Qh ?_)))
      apply RetQ.mk
      ·exact (QL rfl rfl (by rfl) rfl rfl)
      ·exact ⟨none, 0, by rw [parF_re hPd (by omega) (by simpa using hrd.symm) (by assumption)]; rfl, rfl⟩
      ·rw [parF_re hPd (by omega) (by simpa using hrd.symm) (by assumption)]
       exact Ent.own_nil (Take.ent' (by repeat' constructor))
     ·obtain rfl : er = 0 := Classical.not_not.1 h3
      refine Wp.skip (Qb ?_)
      apply Xe (fB := []) mixed [(13, false)] (by kernel_rfl)
      apply Q7 [⟨0, 68, _, [], false⟩, ⟨1, 69, _, [0], false⟩, ⟨2, 70, _, [], false⟩, ⟨3, 71, _, [2], false⟩, ⟨4, 72, _, [], false⟩, ⟨5, 73, _, [4], false⟩, ⟨6, 74, _, [], false⟩, ⟨7, 75, _, [3, 5, 6], false⟩, ⟨8, 76, _, [1, 7], false⟩, ⟨9, 77, _, [], true⟩, ⟨10, 78, _, [], false⟩, ⟨11, 79, _, [1, 10], false⟩, ⟨12, 80, _, [9, 11], true⟩] [] [0, 1, 2, 3, 4, 5, 6, 7, 8, 10, 11] [5, 6, 77, 80] (.inl ⟨_, .nil⟩) rfl rfl rfl (by kernel_rfl) rfl rfl rfl
      ·refine AllF.cons rfl rfl rfl rfl ?_ ?_
       ·refine Qw (vs := [_, _, _, _]) rfl rfl rfl (by rfl) ?_
        exact Qm rfl
       refine AllF.cons rfl rfl rfl rfl ?_ ?_
       ·refine Qi rfl rfl (by repeat' constructor) (ZF _ _ _ _ (by omega) (by omega)) ?_
        rintro _ _ ⟨rfl, rfl⟩
        simp only [Qs]
        exact WpL.nil ⟨rfl, rfl, rfl, by exact Ent.refl _⟩
       refine AllF.cons rfl rfl rfl rfl ?_ ?_
       ·exact Qk (o2 := 1) rfl rfl rfl (Qm rfl)
       refine AllF.cons rfl rfl rfl rfl ?_ ?_
       ·refine Qn rfl rfl (by rfl) ?_
        exact Qm rfl
       refine AllF.cons rfl rfl rfl rfl ?_ ?_
       ·exact Qk (o2 := 2) rfl rfl rfl (Qm rfl)
       refine AllF.cons rfl rfl rfl rfl ?_ ?_
       ·refine Qn rfl rfl (by rfl) ?_
        exact Qm rfl
       refine AllF.cons rfl rfl rfl rfl ?_ ?_
       ·exact Qc rfl rfl (Qm rfl)
       refine AllF.cons rfl rfl rfl rfl ?_ ?_
       ·refine Xu rfl rfl ?_
        exact Qm rfl
       refine AllF.cons rfl rfl rfl rfl ?_ ?_
       ·refine Xu rfl rfl ?_
        exact Qm rfl
       refine QD rfl rfl rfl rfl ?_ ?_
       ·exact Qc rfl rfl (Qm rfl)
       refine AllF.cons rfl rfl rfl rfl ?_ ?_
       ·refine Qw (vs := [_, _, _, _]) rfl rfl rfl (by rfl) ?_
        exact Qm rfl
       refine AllF.cons rfl rfl rfl rfl ?_ ?_
       ·refine Qi rfl rfl (by repeat' constructor) (Vz K Wn Hn M ⟨hMay, by omega⟩) ?_
        rintro _ _ ⟨rfl, rfl⟩
        simp only [Qs]
        exact WpL.nil ⟨rfl, rfl, rfl, by exact Ent.refl _⟩
       refine QD rfl rfl rfl rfl ?_ ?_
       ·refine QA rfl rfl rfl (Qo (by omega) (by omega)) ?_
        exact Qm rfl
       exact AllF.nil
      ·refine QC rfl rfl rfl (by rfl) rfl ?_
       refine WpL.nil ⟨rfl, rfl, ?_⟩
       apply GoR.nil [⟨14, 5, _, [0, 1, 2, 3, 4, 5, 6, 7, 8, 9, 10, 11, 12, 13], false⟩, ⟨15, 6, _, [0, 1, 2, 3, 4, 5, 6, 7, 8, 9, 10, 11, 12, 13, 14], false⟩] (.inl ⟨_, .nil⟩) rfl rfl
       ·refine AllF.cons rfl rfl rfl rfl ?_ ?_
        ·exact Qd rfl rfl (Qm rfl)
        refine AllF.cons rfl rfl rfl rfl ?_ ?_
        ·exact Qd rfl rfl (Qm rfl)
        exact AllF.nil
       ·refine Qh ?_
        apply RetQ.mk
        ·exact (QL rfl rfl (by rfl) rfl rfl)
        ·exact ⟨a3, c3, by rw [parF_r (out := out) hPd (by omega) (by simpa using hrd.symm)]; try rfl, rfl⟩
        ·rw [parF_r (out := out) hPd (by omega) (by simpa using hrd.symm)]
         exact Take.ent' (by repeat' constructor)
 ·simp only [Qs]
  refine Qc rfl rfl (QB rfl rfl rfl (QB rfl rfl rfl (QB rfl rfl rfl (XH rfl ?_))))
  intro gH
  refine QC rfl rfl rfl (by rfl) rfl ?_
  refine Qd rfl rfl (Qd rfl rfl (WpL.nil (Qb (Qb (Qa (Qc rfl rfl (Xq rfl rfl rfl (WpL.nil (QY rfl hE (Qb (Qa ?_)))))))))))
  refine Xu rfl rfl ?_
  refine Qc rfl rfl ?_
  refine QC rfl rfl rfl (by rfl) rfl ?_
  refine Qd rfl rfl (Qd rfl rfl (WpL.nil (Qh ?_)))
  apply RetQ.mk
  ·exact (QL rfl rfl (by rfl) rfl rfl)
  ·exact ⟨none, 0, by rw [parF_e hPd hE]; rfl, rfl⟩
  ·rw [parF_e hPd hE]
   exact Ent.own_nil (Take.ent' (by repeat' constructor))

end Go.Proofs.YtggamdlpiejbiaaGreat
namespace Go.Proofs.YtggamdlpiejbiaaGreat
open Go.RowKit Go.Shelf


theorem liv_par0 : (Yu (QS 4096) (QT 65536) (QU 65535) [80, 49, 32, 50, 32, 49, 32, 49, 32, 48, 32]).2 = (10, 0) ∧ (Yu (QS 4096) (QT 65536) (QU 65535) [80, 49, 32, 50, 32, 49, 32, 49, 32, 48, 32]).1.c = 1 ∧ (Yu (QS 4096) (QT 65536) (QU 65535) [80, 49, 32, 50, 32, 49, 32, 49, 32, 48, 32]).1.m = 1 ∧ (Yu (QS 4096) (QT 65536) (QU 65535) [80, 49, 32, 50, 32, 49, 32, 49, 32, 48, 32]).1.w = 2 ∧ (Yu (QS 4096) (QT 65536) (QU 65535) [80, 49, 32, 50, 32, 49, 32, 49, 32, 48, 32]).1.h = 1 ∧ (Yu (QS 4096) (QT 65536) (QU 65535) [80, 49, 32, 50, 32, 49, 32, 49, 32, 48, 32]).1.px = [281474976710657, 281474976710656] := by decide +kernel
theorem liv_par : Yu (QS 4096) (QT 65536) (QU 65535) [80, 49, 32, 50, 32, 49, 32, 49, 32, 48, 32] = (⟨1, 1, 2, 1, [281474976710657, 281474976710656]⟩, 10, 0) := by
  obtain ⟨h1, h2, h3, h4, h5, h6⟩ := liv_par0
  generalize Yu (QS 4096) (QT 65536) (QU 65535) [80, 49, 32, 50, 32, 49, 32, 49, 32, 48, 32] = q at *
  obtain ⟨⟨c, m, w, h, px⟩, n, e⟩ := q
  simp_all
theorem liv_wr : wrI ⟨1, 1, 2, 1, [281474976710657, 281474976710656]⟩ 4 = [80, 52, 10, 50, 32, 49, 10, 128] := by decide +kernel
theorem liv_kd : (4 : Int) ∈ Q4 1 1 := by rw [kindsF_1 (by unfold YY; omega) (by decide) rfl]; decide
theorem liv_ft : YJ 1 1 2 1 [281474976710657, 281474976710656] := by decide +kernel

theorem lives10_spec  : Fn Tryz.prog 37 #[] [] (fun v l => v = .bool true ∧ l = []) := by
 refine Ql (vs := []) Tryz.func37 rfl Tryz.ntmps37 rfl (Qb (Qa (Qd rfl rfl (WpL.nil (Qb (Qa ?_))))))
 refine s_bs (os := [(0, .const (.int .u8 80)), (1, .const (.int .u8 49)), (2, .const (.int .u8 32)), (3, .const (.int .u8 50)), (4, .const (.int .u8 32)), (5, .const (.int .u8 49)), (6, .const (.int .u8 32)), (7, .const (.int .u8 49)), (8, .const (.int .u8 32)), (9, .const (.int .u8 48)), (10, .const (.int .u8 32))]) [.int .u8 80, .int .u8 49, .int .u8 32, .int .u8 50, .int .u8 32, .int .u8 49, .int .u8 32, .int .u8 49, .int .u8 32, .int .u8 48, .int .u8 32] rfl rfl rfl (by simp [Value.cells]) (by decide) (fun a hh => rfl) ?_
 intro g7
 refine s_b2b rfl Tryz.underlying22 Tryz.underlying5 rfl (by repeat' constructor) ?_
 refine Qi rfl rfl (by repeat' constructor) (Y5) ?_
 rintro _ _ ⟨rfl, rfl⟩
 simp only [Qs]
 refine Qi rfl rfl (by repeat' constructor) (Zy (cvR 5 g7 11 (Xt [80, 49, 32, 50, 32, 49, 32, 49, 32, 48, 32])) (some ⟨g7, 0, none⟩) 11 [80, 49, 32, 50, 32, 49, 32, 49, 32, 48, 32] RdsL.cvR (by decide) (by decide) (by decide) 4096 65536 65535) ?_
 rintro _ _ ⟨aR, cR, rfl, rfl⟩
 simp only [Qs]
 rw [liv_par]
 dsimp only
 refine Y8 (T := 92) (s := 1) (a := aR) (c := cR) (by repeat' constructor) (fun hcr => ?_)
 refine Qc rfl rfl (QB rfl rfl rfl (QB rfl rfl rfl (QB rfl rfl rfl (XH rfl ?_))))
 intro gM
 refine QC rfl rfl rfl (by rfl) rfl ?_
 refine Qd rfl rfl (Qd rfl rfl (WpL.nil (Qb (Qa ?_))))
 refine Qw (vs := [_, _, _, _, _]) rfl rfl rfl (by rfl) ?_
 refine Qi rfl rfl (by repeat' constructor) (iWriteN_spec (QX 92 1 aR cR 2 (XQ [281474976710657, 281474976710656])) 1 1 2 1 aR cR [281474976710657, 281474976710656] Q0 (by decide) hcr (by decide) 4) ?_
 intro v0 m0 hN0
 rcases hN0 with ⟨hT1, hT2, gW, cW, rfl, rfl⟩ | ⟨hT, rfl, rfl⟩
 ·simp only [Qs]
  refine Qc rfl rfl (QB rfl rfl rfl (QB rfl rfl rfl (Qd rfl rfl (Qd rfl rfl (WpL.nil (Qb (Qa (Qc rfl rfl (QH rfl rfl rfl (Qc rfl rfl (Qx (dj := 21) rfl rfl ?_)))))))))))
  refine Qf rfl rfl (Qc rfl rfl (Qf rfl rfl (QH rfl rfl rfl (Qr rfl rfl rfl (Qc rfl rfl (Qx (dj := 25) rfl rfl ?_))))))
  refine Qf rfl rfl (Qc rfl rfl (Qf rfl rfl (QH rfl rfl rfl (Qr rfl rfl rfl (Qc rfl rfl (Qx (dj := 29) rfl rfl ?_))))))
  refine Qf rfl rfl (Qc rfl rfl (Qf rfl rfl (s_b2sR rfl Tryz.underlying22 Tryz.underlying5 Tryz.underlying9 rfl (RdsL.rdo (g := gW) (xs := Xt (wrI ⟨1, 1, 2, 1, [281474976710657, 281474976710656]⟩ 4))) (by exact Take.ent' (by repeat' constructor)) rfl ?_)))
  refine Qf rfl rfl ?_
  refine s_bs (os := [(0, .const (.int .u8 80)), (1, .const (.int .u8 52)), (2, .const (.int .u8 10)), (3, .const (.int .u8 50)), (4, .const (.int .u8 32)), (5, .const (.int .u8 49)), (6, .const (.int .u8 10)), (7, .const (.int .u8 128))]) [.int .u8 80, .int .u8 52, .int .u8 10, .int .u8 50, .int .u8 32, .int .u8 49, .int .u8 10, .int .u8 128] rfl rfl rfl (by simp [Value.cells]) (by decide) (fun a hh => rfl) ?_
  intro g32
  refine Qf rfl rfl (s_b2sR rfl Tryz.underlying22 Tryz.underlying5 Tryz.underlying9 rfl (RdsL.blk (g := g32) (o := 0) (T := 5) (cs := Xt [80, 52, 10, 50, 32, 49, 10, 128]) (xs := Xt [80, 52, 10, 50, 32, 49, 10, 128]) rfl) (by exact Take.ent' (by repeat' constructor)) rfl ?_)
  refine Qf rfl rfl (s_seq rfl rfl rfl (Qr rfl rfl rfl (Qd rfl rfl (WpL.nil (Qh ?_)))))
  apply RetQ.mk
  ·exact (Res.one rfl rfl)
  ·exact ⟨congrArg Value.bool (decide_eq_true (by have q := liv_wr; exact congrArg strOfNums q)), rfl⟩
  ·exact Ent.nil _
 ·simp only [Qs]
  exfalso
  exact hT ⟨liv_kd, liv_ft⟩

end Go.Proofs.YtggamdlpiejbiaaGreat
namespace Go.Proofs.YtggamdlpiejbiaaGreat
open Go.RowKit Go.Shelf


theorem WpL.cvLe {P : Program} {n : Cx} {D : List Deferred} {ops : Array Oper} {rest : List Oper} {Q : Post} {fr : Fr} {l : List HP} {e g c : Nat} {xs : List Value} {F : List HP} (ht : Take1 l (cvR e g c xs) F) (k : xs.length ≤ c → WpL P n D ops rest Q fr l) : WpL P n D ops rest Q fr l := fun A w U hh hs => by
  refine k ?_ A w U hh hs
  obtain ⟨S, hp, _⟩ := ht.ent w U hs
  obtain ⟨_, _, _, _, h, _⟩ := hp
  exact h

theorem rWrite10c_spec (A0 : HP) (m : Img) (a : Option Addr) (c : Nat) (hA : RdsL [A0] a (XQ m.px)) (most : Int) (hmo : most ≤ 100) (hg : GoodI most m) (k : Int) (hk : k ∈ Q4 m.c m.m) : Fn Tryz.prog 34 #[.agg #[.int .i64 m.c, .int .i64 m.m, .int .i64 m.w, .int .i64 m.h, .slice a m.px.length c], .int .i64 k] [A0] (fun v l => ∃ B b e, RdsL [B] b (Xt (wrI m k)) ∧ (wrI m k).length ≤ e ∧ v = .tuple #[.slice b (wrI m k).length e, .int .i64 0] ∧ l = [B, A0]) := by
 obtain ⟨hMay, hfit, hfm⟩ := good_fits hmo hg hk
 obtain ⟨hz1, hz2⟩ := good_sz hmo hg
 have hb : ∀ p ∈ m.px, 0 ≤ p ∧ p < 18446744073709551616 := fun p hp => (hg.2.2.2.2.2 p hp).2
 have hM2 := hMay
 unfold XG at hM2
 obtain ⟨_, hg2, hgw, hgh, hgl, _⟩ := id hg
 have hWn : ((m.w.toNat : Nat) : Int) = m.w := by omega
 have hHn : ((m.h.toNat : Nat) : Int) = m.h := by omega
 have hz6 := hdW_len (K := k) (W := m.w) (H := m.h) (M := m.m) (by omega) (by omega) (by omega) (by omega)
 refine Ql (vs := [.agg #[.int .i64 m.c, .int .i64 m.m, .int .i64 m.w, .int .i64 m.h, .slice a m.px.length c], .int .i64 k]) Tryz.func34 rfl Tryz.ntmps34 rfl (Qb (Qa (Q2 rfl rfl rfl ?_)))
 intro gI
 refine Qd rfl rfl (Qd rfl rfl (WpL.nil (Qb (Qa ?_))))
 refine Qw (vs := [_, _, _, _, _]) rfl rfl rfl (by rfl) ?_
 refine Qc rfl rfl (Qi rfl rfl (by repeat' constructor) (rTells_spec [A0] m.c m.m m.w m.h a c m.px hA hb (by omega) k) ?_)
 rintro _ _ ⟨rfl, rfl⟩
 simp only [Qs]
 refine Qd rfl rfl (WpL.nil (Qb (Qb (Qa (Qc rfl rfl (XV rfl rfl (WpL.nil (Qj rfl (fun h0 => ?_) (fun h0 => ?_)))))))))
 ·exfalso; exact absurd ⟨hk, hfm⟩ h0
 ·refine Wp.skip (Qb (Qa (Qc rfl rfl (Qk (o2 := 2) rfl rfl rfl (Qk (o2 := 2) rfl rfl rfl (Qn rfl rfl (by rfl) ?_))))))
  refine Qk (o2 := 2) rfl rfl rfl (Qk (o2 := 3) rfl rfl rfl (Qn rfl rfl (by rfl) ?_))
  refine Qk (o2 := 0) rfl rfl rfl (Qk (o2 := 1) rfl rfl rfl (Qn rfl rfl (by rfl) ?_))
  refine Xu rfl rfl ?_
  refine XH rfl ?_
  intro gH
  refine QC rfl rfl rfl (by rfl) rfl ?_
  refine WpL.nil (Qb (Qa ?_))
  refine Qw (vs := [_, _, _, _]) rfl rfl rfl (by rfl) ?_
  refine Qi rfl rfl (by repeat' constructor) (rWrite06_spec _ _ _ _ hMay) ?_
  rintro _ _ ⟨s6, hs6, rfl, rfl⟩
  simp only [Qs]
  have hs6z : s6.size ≤ 100000 := by rw [← QZ, hs6]; exact hz6
  refine Qc rfl rfl (QB rfl rfl rfl (QB rfl rfl rfl (Qd rfl rfl (Qd rfl rfl (WpL.nil (Qb (Qb (Qa (Qc rfl rfl (Q8 rfl rfl rfl (WpL.nil (Qj rfl (fun h1 => ?_) (fun h1 => ?_)))))))))))))
  ·refine Qb (Qa (Qk (o2 := 2) rfl rfl rfl (Qk (o2 := 4) rfl rfl rfl (Qn rfl rfl (by rfl) ?_))))
   refine Qw (vs := [_, _, _, _]) rfl rfl rfl (by rfl) ?_
   refine Qi rfl rfl (by repeat' constructor) (rWrite_spec A0 a c m.px hA hb (by omega) k m.w m.h m.m) ?_
   rintro _ _ ⟨s8, e8, rfl, hs8, rfl⟩
   simp only [Qs]
   obtain ⟨_, rfl, hs8, hz8⟩ : WrP k m.w m.h m.m m.px ∧ e8 = 0 ∧ QJ s8 = ZI k m.w 0 m.px ∧ s8.size ≤ m.px.length * 300000 := by
    rcases hs8 with q | q
    ·exact q
    ·exact absurd (⟨⟨hMay, by omega⟩, hgl, hfit⟩ : WrP k m.w m.h m.m m.px) q.1
   refine Qc rfl rfl (QB rfl rfl rfl (QB rfl rfl rfl (Qd rfl rfl (Qd rfl rfl (WpL.nil (Qb (Qa (Qc rfl rfl (Qc rfl rfl (YC rfl rfl rfl (by omega) ?_))))))))))
   refine s_t2bc rfl Tryz.underlying9 Tryz.underlying22 Tryz.underlying5 rfl ?_
   intro gB cB
   refine WpL.cvLe (by repeat' constructor) (fun hcB => ?_)
   rw [Xi] at hcB
   rw [show QJ (s6 ++ s8) = wrI m k by rw [Yc, hs6, hs8, wrI, if_pos (by omega)]] at hcB ⊢
   refine Qd rfl rfl (Qd rfl rfl (WpL.nil (Qh ?_)))
   apply RetQ.mk
   ·exact (QM rfl rfl rfl)
   ·exact ⟨cvR 5 gB cB _, _, cB, RdsL.cvR, hcB, rfl, rfl⟩
   ·exact Take.ent' (by repeat' constructor)
  ·have hpl : m.px.length = m.w.toNat * m.h.toNat := by
    have q : ((m.w.toNat * m.h.toNat : Nat) : Int) = m.w * m.h := by rw [Int.natCast_mul, hWn, hHn]
    omega
   have hw9 := rWrite09_spec A0 a c m.px hA hb k m.w.toNat m.h.toNat m.m (by rw [hWn, hHn]; exact ⟨hMay, by omega⟩) hpl hfit (by omega)
   rw [hWn, hHn] at hw9
   have hwl := Ya (K := k) (w := Qg m.m) (Q1 m.m) hpl (fun p hp => by have := ZZ (hfit p hp); omega) m.h.toNat (Nat.le_refl _)
   have hsb := XB (K := k) (W := m.w.toNat) (Q1 m.m) (by omega) (by omega)
   have hwl2 : (Xl k m.w.toNat (Qg m.m) m.px m.h.toNat).length ≤ 24576 * 100 := by rw [hwl]; exact Nat.mul_le_mul hsb.2 (by omega)
   refine Wp.skip (Qb (Qa (Qk (o2 := 2) rfl rfl rfl (Qk (o2 := 4) rfl rfl rfl (Qn rfl rfl (by rfl) ?_)))))
   refine Qw (vs := [_, _, _, _]) rfl rfl rfl (by rfl) ?_
   refine Qi rfl rfl (by repeat' constructor) (hw9) ?_
   rintro _ _ ⟨a9, c9, rfl, rfl⟩
   simp only [Qs]
   refine Qc rfl rfl (QB rfl rfl rfl (QB rfl rfl rfl (Qd rfl rfl (Qd rfl rfl (WpL.nil (Qb (Qa (Qd rfl rfl (WpL.nil (Qb (Qa (Qc rfl rfl ?_))))))))))))
   refine Qc rfl rfl (s_t2bc rfl Tryz.underlying9 Tryz.underlying22 Tryz.underlying5 rfl ?_)
   intro gB cB
   refine WpL.cvLe (by repeat' constructor) (fun hcB => ?_)
   rw [Xi] at hcB
   rw [hs6]
   refine WpL.ent (Ent.own_nil (T := 5) (s := 1) (Ent.refl _)) ?_
   refine s_appR (xs := []) (m2 := (hdW k m.w m.h m.m).length) rfl rfl rfl (by repeat' constructor) RdsL.cvR (by exact Take.ent' (by repeat' constructor)) (by rw [Xi, Nat.mul_one]) (by rfl) (by rfl) (Ve _) (by omega) (by omega) ?_
   intro a61 c61
   rw [List.nil_append, Nat.zero_add]
   refine Qd rfl rfl (WpL.nil (Qb (Qa (Qc rfl rfl (Qc rfl rfl (ZR rfl rfl rfl (by repeat' constructor) (by rfl) (by rfl) (Ve _) (by omega) (by omega) ?_))))))
   intro a64 c64
   rw [u8s_app, ← List.length_append, show hdW k m.w m.h m.m ++ Xl k m.w.toNat (Qg m.m) m.px m.h.toNat = wrI m k by rw [wrI, if_neg (by omega)]]
   refine Y8 (by repeat' constructor) (fun hco => ?_)
   refine Qd rfl rfl (Qd rfl rfl (WpL.nil (Qh ?_)))
   apply RetQ.mk
   ·exact (QM rfl rfl rfl)
   ·exact ⟨QX 5 1 a64 c64 (wrI m k).length (Xt (wrI m k)), a64, c64, Q0, hco, rfl, rfl⟩
   ·exact Take.ent' (by repeat' constructor)

end Go.Proofs.YtggamdlpiejbiaaGreat
namespace Go.Proofs.YtggamdlpiejbiaaGreat
open Go.RowKit Go.Shelf


theorem kinds_posF {C M : Int} (h : YY C M) : 0 < (Q4 C M).length := by
  by_cases h3 : C = 3
  · rw [kindsF_3 h h3]; decide
  · by_cases h1 : M = 1
    · rw [kindsF_1 h h3 h1]; decide
    · rw [kindsF_2 h h3 h1]; decide
theorem good_fmt {most : Int} {m : Img} (h : GoodI most m) : YY m.c m.m := ⟨h.1, h.2.1⟩
theorem WpL.ownMax {P : Program} {n : Cx} {D : List Deferred} {ops : Array Oper} {rest : List Oper} {Q : Post} {fr : Fr} {l : List HP} {T s c m : Nat} {a : Option Addr} {xs : List Value} (he : Ent l [QX T s a c m xs]) (k : m ≤ 9223372036854775807 → WpL P n D ops rest Q fr l) : WpL P n D ops rest Q fr l := fun A w U hh hs => by
  obtain ⟨S, hp, _⟩ := he w U hs
  exact k (own_max hp) A w U hh hs

theorem as10_spec (x : Img) (a : Option Addr) (c : Nat) : Fn Tryz.prog 41 #[.agg (mC x a c).toArray] [] (fun v l => v = .agg (mC x a c).toArray ∧ l = []) := by
 refine Ql (vs := [.agg (mC x a c).toArray]) Tryz.func41 rfl Tryz.ntmps41 rfl (Qb (Qa (Q2 rfl rfl rfl ?_)))
 intro g1
 refine XH rfl ?_
 intro g2
 refine WpL.nil (Qb (Qa (Qk (o2 := 0) rfl rfl rfl ?_)))
 refine Qw (vs := [_, _]) rfl rfl rfl (by rfl) ?_
 refine Qk (o2 := 2) rfl rfl rfl (Qk (o2 := 2) rfl rfl rfl (Qn rfl rfl (by rfl) ?_))
 refine Qk (o2 := 2) rfl rfl rfl (Qk (o2 := 3) rfl rfl rfl (Qn rfl rfl (by rfl) ?_))
 refine Qk (o2 := 2) rfl rfl rfl (Qk (o2 := 4) rfl rfl rfl (Qn rfl rfl (by rfl) ?_))
 refine Xu rfl rfl ?_
 refine Xu rfl rfl ?_
 refine QC rfl rfl rfl (by rfl) rfl ?_
 refine WpL.nil (Qh ?_)
 apply RetQ.mk
 ·exact (XC rfl rfl (by rfl))
 ·exact ⟨rfl, rfl⟩
 ·exact Ent.nil _

end Go.Proofs.YtggamdlpiejbiaaGreat
namespace Go.Proofs.YtggamdlpiejbiaaGreat
open Go.RowKit Go.Shelf

theorem fit_canU {p C M : Int} (_h0 : 0 ≤ p) (h : Yw p C M) (_hM : M ≤ 65535) : Can C M p := by
  obtain ⟨hf, hl, hm⟩ := h
  refine ⟨hl, ?_, ?_⟩
  · unfold Qp at hl ⊢
    by_cases h3 : p / 281474976710656 = 3
    · rw [if_pos h3, pack_three (by unfold Vd; omega) (by unfold Vd; omega) (by unfold Vd; omega)]
      simp only
      omega
    · rw [if_neg h3] at hl ⊢
      by_cases h1 : p / 281474976710656 = 1 ∧ p / 4294967296 % 65536 = 0 ∧ p / 65536 % 65536 = 0
      · rw [if_pos h1, pack_one (by unfold Vd; omega)]
        simp only
        omega
      · rw [if_neg h1] at hl
        have := hf.1
        simp at hl
        omega
  · intro x hx
    refine ⟨?_, hm x hx⟩
    unfold Qp at hx
    split at hx
    · simp at hx; omega
    · split at hx
      · simp at hx; omega
      · simp at hx
theorem tk_dig {most n : Int} {ph : Int} {d : Nat} (hph : ph = 0 ∨ ph = 2) (hd : d < 10) (hm : n * 10 + d ≤ most) (hn : 0 ≤ n) : QG most ⟨ph, n, 9⟩ (48 + (d : Int)) = (⟨2, n * 10 + d, 9⟩, 0) := by
  have hst : Xm n (48 + (d : Int)) most = (n * 10 + d, 0) := by
    unfold Xm
    rw [if_neg (by omega), if_neg (by omega)]
    exact Prod.ext (by simp only; omega) rfl
  have hb : Xc (48 + (d : Int)) = false := decide_eq_false (by omega)
  unfold QG
  rw [if_neg (by simp only; omega), if_neg (by simp only; omega), if_neg (by simp only; omega), if_neg (by simp only; omega), if_neg (by omega), if_neg (by rw [hb]; decide)]
  simp only [hst]
  rw [if_neg (by simp)]
theorem hd_dig {l0 l1 l2 K W H M i n : Int} {ph : Int} {d : Nat} (hph : ph = 0 ∨ ph = 2) (hd : d < 10) (hn : 0 ≤ n) (hm : n * 10 + d ≤ Q6 l0 l1 l2 i) (bs : List Int) (k : Int) : Xj l0 l1 l2 ⟨K, W, H, M, 3, i, ⟨ph, n, 9⟩, 0, 9⟩ ((48 + (d : Int)) :: bs) k = Xj l0 l1 l2 ⟨K, W, H, M, 3, i, ⟨2, n * 10 + d, 9⟩, 0, 9⟩ bs (k + 1) := by
  have e : Xa l0 l1 l2 ⟨K, W, H, M, 3, i, ⟨ph, n, 9⟩, 0, 9⟩ (48 + (d : Int)) = ⟨K, W, H, M, 3, i, ⟨2, n * 10 + d, 9⟩, 0, 9⟩ := by
    unfold Xa
    rw [if_neg (by simp), if_neg (by simp)]
    unfold XI
    simp only [tk_dig hph hd hm hn]
    rfl
  rw [Za _ _ _ (by rw [e]), e]
theorem hd_digs {l0 l1 l2 K W H M i : Int} : ∀ (n : Nat), (n : Int) ≤ Q6 l0 l1 l2 i → ∀ (bs : List Int) (k : Int), Xj l0 l1 l2 ⟨K, W, H, M, 3, i, X5, 0, 9⟩ (XO n ++ bs) k = Xj l0 l1 l2 ⟨K, W, H, M, 3, i, ⟨2, n, 9⟩, 0, 9⟩ bs (k + (XO n).length) := by
  intro n
  induction n using Nat.strongRecOn with
  | _ n ih =>
    intro hm bs k
    rw [XO]
    by_cases h : n < 10
    · rw [if_pos h]
      have := hd_dig (l0 := l0) (l1 := l1) (l2 := l2) (K := K) (W := W) (H := H) (M := M) (i := i) (n := 0) (ph := 0) (.inl rfl) h (by omega) (by omega) bs k
      rw [show (0 * 10 + (n : Int)) = n by omega] at this
      exact this
    · rw [if_neg h, List.append_assoc, ih (n / 10) (by omega) (by omega)]
      have := hd_dig (l0 := l0) (l1 := l1) (l2 := l2) (K := K) (W := W) (H := H) (M := M) (i := i) (n := ((n / 10 : Nat) : Int)) (ph := 2) (d := n % 10) (.inr rfl) (by omega) (by omega) (by omega) bs (k + (XO (n / 10)).length)
      rw [show (((n / 10 : Nat) : Int) * 10 + ((n % 10 : Nat) : Int)) = n by omega] at this
      rw [List.length_append]
      refine this.trans ?_
      congr 1
      simp only [List.length_cons, List.length_nil]
      push_cast
      omega
/-- A number's last digit, and the blank behind it. -/
theorem hd_end {l0 l1 l2 K W H M i c : Int} {n : Int} (hn : 1 ≤ n) (hc : Xc c = true) : Xa l0 l1 l2 ⟨K, W, H, M, 3, i, ⟨2, n, 9⟩, 0, 9⟩ c = (if (XM (X9 ⟨K, W, H, M, 3, i, ⟨2, n, 9⟩, 0, 9⟩ n)).i < 3 then { XM (X9 ⟨K, W, H, M, 3, i, ⟨2, n, 9⟩, 0, 9⟩ n) with t := X5, last := 0 } else { XM (X9 ⟨K, W, H, M, 3, i, ⟨2, n, 9⟩, 0, 9⟩ n) with t := ⟨4, n, 0⟩, last := 1, e := 0 }) := by
  have h35 : c ≠ 35 := fun e => by subst e; simp [Xc] at hc
  have ht : QG (Q6 l0 l1 l2 i) ⟨2, n, 9⟩ c = (⟨4, n, 0⟩, 1) := by
    unfold QG
    rw [if_neg (by simp), if_neg (by simp), if_neg (by simp), if_neg (by simp), if_neg h35, if_pos hc, if_neg (by simp)]
  unfold Xa
  rw [if_neg (by simp), if_neg (by simp)]
  unfold XI
  simp only [ht]
  rw [if_neg (by decide), if_neg (by decide), if_neg (by omega)]
/-- A head that is done. -/
def hdZ (K W H M : Int) (i : Int) (t : TS) : HS := ⟨K, W, H, M, 3, i, t, 1, 0⟩
theorem hd_back {l0 l1 l2 K W H M : Int} (_hL : LimO l0 l1 l2) (hM : XG K W H M) (h0 : W ≤ l0) (h1 : H ≤ l1) (h2 : M ≤ l2) (bs : List Int) : ∃ t, Xj l0 l1 l2 hd0 (hdW K W H M ++ bs) 0 = (hdZ K W H M 3 t, ((hdW K W H M).length : Int)) := by
  unfold XG at hM
  have hd1 : XO K.toNat = [48 + K] := by rw [XO, if_pos (by omega)]; congr 1; omega
  have hb32 : Xc 32 = true := rfl
  have hb10 : Xc 10 = true := rfl
  have e1 : Xa l0 l1 l2 hd0 80 = ⟨0, 0, 0, 0, 1, 0, X5, 0, 9⟩ := by simp [Xa, Xr, hd0]
  have e2 : Xa l0 l1 l2 ⟨0, 0, 0, 0, 1, 0, X5, 0, 9⟩ (48 + K) = ⟨K, 0, 0, 0, 2, 0, X5, 0, 9⟩ := by
    unfold Xa Xr
    rw [if_neg (by simp), if_pos (by simp), if_neg (by simp; omega), if_pos (by simp)]
    show (⟨48 + K - 48, 0, 0, 0, 2, 0, X5, 0, 9⟩ : HS) = _
    rw [show (48 + K - 48 : Int) = K by omega]
  have e3 : Xa l0 l1 l2 ⟨K, 0, 0, 0, 2, 0, X5, 0, 9⟩ 10 = ⟨K, 0, 0, 0, 3, 0, X5, 0, 9⟩ := by
    unfold Xa Xr
    rw [if_neg (by simp), if_pos (by simp), if_neg (by simp), if_neg (by simp), if_pos (by simp), if_neg (by simp [hb10])]
    have ht : (QG l0 X5 10).1 = X5 := by
      unfold QG X5
      rw [if_neg (by simp), if_neg (by simp), if_neg (by simp), if_neg (by simp), if_neg (by decide), if_pos hb10, if_pos (by simp)]
    rw [ht]
    rfl
  have hWt : ((W.toNat : Nat) : Int) = W := by omega
  have hHt : ((H.toNat : Nat) : Int) = H := by omega
  have hMt : ((M.toNat : Nat) : Int) = M := by omega
  have e4 : Xa l0 l1 l2 ⟨K, 0, 0, 0, 3, 0, ⟨2, W, 9⟩, 0, 9⟩ 32 = ⟨K, W, 0, 0, 3, 1, X5, 0, 9⟩ := by
    rw [hd_end (by omega) hb32]
    simp [X9, XM]
  have e5 : ∀ (hb : X3 K), Xa l0 l1 l2 ⟨K, W, 0, 0, 3, 1, ⟨2, H, 9⟩, 0, 9⟩ 10 = ⟨K, W, H, 1, 3, 3, ⟨4, H, 0⟩, 1, 0⟩ := fun hb => by
    rw [hd_end (by omega) hb10]
    simp [X9, XM, hb]
  have e6 : ∀ (hb : ¬ X3 K), Xa l0 l1 l2 ⟨K, W, 0, 0, 3, 1, ⟨2, H, 9⟩, 0, 9⟩ 10 = ⟨K, W, H, 0, 3, 2, X5, 0, 9⟩ := fun hb => by
    rw [hd_end (by omega) hb10]
    simp [X9, XM, hb]
  have e7 : Xa l0 l1 l2 ⟨K, W, H, 0, 3, 2, ⟨2, M, 9⟩, 0, 9⟩ 10 = ⟨K, W, H, M, 3, 3, ⟨4, M, 0⟩, 1, 0⟩ := by
    rw [hd_end (by omega) hb10]
    simp [X9, XM]
  have hl0 : Q6 l0 l1 l2 0 = l0 := rfl
  have hl1 : Q6 l0 l1 l2 1 = l1 := rfl
  have hl2 : Q6 l0 l1 l2 2 = l2 := rfl
  have hw := hd_digs (l0 := l0) (l1 := l1) (l2 := l2) (K := K) (W := 0) (H := 0) (M := 0) (i := 0) W.toNat (by rw [hl0]; omega)
  have hh := hd_digs (l0 := l0) (l1 := l1) (l2 := l2) (K := K) (W := W) (H := 0) (M := 0) (i := 1) H.toNat (by rw [hl1]; omega)
  have hm := hd_digs (l0 := l0) (l1 := l1) (l2 := l2) (K := K) (W := W) (H := H) (M := 0) (i := 2) M.toNat (by rw [hl2]; omega)
  rw [hWt] at hw
  rw [hHt] at hh
  rw [hMt] at hm
  unfold hdW
  rw [hd1]
  simp only [List.append_assoc, List.cons_append, List.nil_append]
  rw [Za _ _ _ (by rw [e1]), e1, Za _ _ _ (by rw [e2]), e2, Za _ _ _ (by rw [e3]), e3, hw, Za _ _ _ (by rw [e4]), e4, hh]
  by_cases hb : X3 K
  · rw [Vl _ _ _ (by rw [e5 hb]; exact fun q => absurd (show (1 : Int) = 0 from q) (by decide)), e5 hb]
    have hM1 : M = 1 := hM.2.2.2.2 hb
    subst hM1
    refine ⟨⟨4, H, 0⟩, Prod.ext rfl ?_⟩
    rw [if_pos (show K = 1 ∨ K = 4 from hb)]
    simp only [List.length_append, List.length_cons, List.length_nil]
    push_cast
    omega
  · rw [Za _ _ _ (by rw [e6 hb]), e6 hb, if_neg (show ¬ (K = 1 ∨ K = 4) from hb)]
    simp only [List.append_assoc, List.cons_append, List.nil_append]
    rw [hm, Vl _ _ _ (by rw [e7]; exact fun q => absurd (show (1 : Int) = 0 from q) (by decide)), e7]
    refine ⟨⟨4, M, 0⟩, Prod.ext rfl ?_⟩
    simp only [List.length_append, List.length_cons, List.length_nil]
    push_cast
    omega
theorem hdP_back {l0 l1 l2 K W H M : Int} (hL : LimO l0 l1 l2) (hM : XG K W H M) (h0 : W ≤ l0) (h1 : H ≤ l1) (h2 : M ≤ l2) (bs : List Int) : XW l0 l1 l2 (hdW K W H M ++ bs) = ((K, W, H, M), ((hdW K W H M).length : Int), 0) := by
  obtain ⟨t, e⟩ := hd_back hL hM h0 h1 h2 bs
  rw [Y2, e]
  rfl
/-- An image's bytes are parsed as it was. -/
theorem par_back {C M : Int} {Wn Hn : Nat} {px : List Int} {k : Int} (hT : k ∈ Q4 C M ∧ YJ C M (Wn : Int) (Hn : Int) px) (hp : ∀ p ∈ px, 0 ≤ p ∧ p < 18446744073709551616) :
    ∃ j, Yu 4096 65536 65535 (wrI ⟨C, M, (Wn : Int), (Hn : Int), px⟩ k) = (⟨C, M, (Wn : Int), (Hn : Int), px⟩, j, 0) ∧ (wrI ⟨C, M, (Wn : Int), (Hn : Int), px⟩ k).length - 1 ≤ j ∧ j ≤ (wrI ⟨C, M, (Wn : Int), (Hn : Int), px⟩ k).length := by
  obtain ⟨hMay, hfit, hpl, _⟩ := tk_may hT
  obtain ⟨hfm, _, hck, _⟩ := kinds_mem hT.1
  have hM2 := hMay
  unfold XG at hM2
  have hcan : ∀ p ∈ px, Can (QR k) M p := fun p hpp => fit_canU (hp p hpp).1 (hfit p hpp) (by omega)
  have hL : LimO 4096 65536 65535 := ⟨by omega, by omega, by omega⟩
  have hP := fun bs => hdP_back hL hMay (by omega) (by omega) (by omega) bs
  have hpn : px.length = Wn * Hn := by exact_mod_cast hpl
  unfold wrI
  dsimp only
  by_cases hk : k < 4
  · rw [if_pos hk]
    obtain ⟨j, hr⟩ := read_all (K := k) (W := (Wn : Int)) (H := (Hn : Int)) (M := M) ⟨hMay, by omega⟩ (feed_wr (by omega) (by omega) (fun h => hM2.2.2.2.2 (.inl h)) px 0 hcan) hcan (by rw [hpl, Int.mul_comm])
    have hj := read_where (K := k) (W := (Wn : Int)) (H := (Hn : Int)) (M := M) ⟨hMay, by omega⟩ hcan hpl hr
    have hq := parF_p (out := px) (i := j) (hP (ZI k (Wn : Int) 0 px)) (by omega) (by rw [Int.toNat_natCast, List.drop_left]; exact hr)
    rw [hck] at hq
    refine ⟨_, hq, ?_⟩
    rw [List.length_append]
    omega
  · rw [if_neg hk, show ((Wn : Int)).toNat = Wn from rfl, show ((Hn : Int)).toNat = Hn from rfl]
    have hsb := XB (K := k) (W := Wn) (Q1 M) (by omega) (by omega)
    have hb := raw_back (K := k) (M := M) (W := Wn) (Hn := Hn) (by omega) (by omega) (fun h => hM2.2.2.2.2 (.inr h)) hpn hcan (List.replicate (QE k Wn (Qg M)) 0) (by simp) 0
    have hw := readW_raw (h := ⟨k, (Wn : Int), (Hn : Int), M, 0, 0, X5, 1, 0⟩) ⟨rfl, rfl, hMay⟩ (Xl k Wn (Qg M) px Hn) (List.replicate (QE k Wn (Qg M)) 0) (by simp) (by simp; omega)
    simp only [Int.toNat_natCast] at hw
    have hr := hw.symm.trans hb
    have hq := parF_r (out := px) (hP (Xl k Wn (Qg M) px Hn)) (by omega) (by simp only [Int.toNat_natCast, List.drop_left]; exact hr)
    rw [hck] at hq
    have hwl := Ya (K := k) (w := Qg M) (Q1 M) hpn (fun p hpp => by have := ZZ (hfit p hpp); omega) Hn (Nat.le_refl _)
    refine ⟨_, hq, ?_⟩
    rw [List.length_append, hwl, show ((Wn : Int)).toNat = Wn from rfl, show ((Hn : Int)).toNat = Hn from rfl]
    omega

end Go.Proofs.YtggamdlpiejbiaaGreat
namespace Go.Proofs.YtggamdlpiejbiaaGreat
open Go.RowKit Go.Shelf


theorem Vn : QS 4096 = 4096 ∧ QT 65536 = 65536 ∧ QU 65535 = 65535 := by decide
theorem par_backI {most : Int} (hmo : most ≤ 100) {m : Img} (hg : GoodI most m) {k : Int} (hk : k ∈ Q4 m.c m.m) : ∃ j, Yu (QS 4096) (QT 65536) (QU 65535) (wrI m k) = (m, j, 0) ∧ (wrI m k).length - 1 ≤ j ∧ j ≤ (wrI m k).length := by
  obtain ⟨_, _, hfm⟩ := good_fits hmo hg hk
  have hpx : ∀ p ∈ m.px, 0 ≤ p ∧ p < 18446744073709551616 := fun p hp => (hg.2.2.2.2.2 p hp).2
  obtain ⟨c, mm, w, h, px⟩ := m
  obtain ⟨Wn, rfl⟩ := Int.eq_ofNat_of_zero_le (show 0 ≤ w by have := hg.2.2.1.1; dsimp only at this; omega)
  obtain ⟨Hn, rfl⟩ := Int.eq_ofNat_of_zero_le (show 0 ≤ h by have := hg.2.2.2.1.1; dsimp only at this; omega)
  rw [Vn.1, Vn.2.1, Vn.2.2]
  exact par_back ⟨hk, hfm⟩ hpx
theorem hdRun_stop (l0 l1 l2 : Int) : ∀ (bs cs : List Int) (h : HS) (n : Int), (Xj l0 l1 l2 h bs n).1.last ≠ 0 → h.last = 0 → Xj l0 l1 l2 h (bs ++ cs) n = Xj l0 l1 l2 h bs n
  | [], _, h, n, hl, h0 => absurd h0 hl
  | c :: bs, cs, h, n, hl, _ => by
    rw [List.cons_append, Xj, Xj]
    by_cases hp : (Xa l0 l1 l2 h c).last ≠ 0
    · rw [if_pos hp, if_pos hp]
    · rw [Xj, if_neg hp] at hl
      rw [if_neg hp, if_neg hp]
      exact hdRun_stop l0 l1 l2 bs cs _ _ hl (Classical.not_not.1 hp)
theorem badR_take {K M : Int} {W H : Nat} {R : List Int} (hb : ¬ Y0 K W H M R > 0) (m : Nat) : ¬ Y0 K W H M (R.take m) > 0 := by
  by_cases hK : K = 4
  · unfold Y0; rw [if_pos hK]; omega
  · have hw := Q1 M
    rw [badR_n4 hK] at hb ⊢
    rcases ZK ((Qg M : Nat) : Int) M (Ye (Qg M) ((R.take m).take (QE K W (Qg M) * H))) 0 with ⟨h1, _⟩ | ⟨j, hj, h1, _, _⟩
    · rw [h1]; omega
    · exfalso
      have hl : (Ye (Qg M) ((R.take m).take (QE K W (Qg M) * H))).length = ((R.take m).take (QE K W (Qg M) * H)).length / Qg M := by simp [Ye]
      have hjw : (j + 1) * Qg M ≤ ((R.take m).take (QE K W (Qg M) * H)).length := by
        rw [hl] at hj
        rcases hw with e | e <;> rw [e] at hj ⊢ <;> omega
      rw [List.length_take, List.length_take] at hjw
      obtain ⟨_, e1⟩ := smps_at hw (R.take m) (j := j) (N := QE K W (Qg M) * H) (by omega) (by rw [List.length_take]; omega)
      obtain ⟨hj2, e2⟩ := smps_at hw R (j := j) (N := QE K W (Qg M) * H) (by omega) (by omega)
      have e3 : Xx (Qg M) (R.take m) j = Xx (Qg M) R j := Vq hw (k := m) (by rw [List.take_take, Nat.min_self]) (by omega)
      rw [e1, e3, ← e2] at h1
      rcases ZK ((Qg M : Nat) : Int) M (Ye (Qg M) (R.take (QE K W (Qg M) * H))) 0 with ⟨_, h2⟩ | ⟨j2, _, _, _, h3⟩
      · have := h2 _ (List.getElem_mem hj2)
        omega
      · rw [h3] at hb
        have : (0 : Int) < ((Qg M : Nat) : Int) * (0 + j2 + 1) := Int.mul_pos (by rcases hw with e | e <;> rw [e] <;> decide) (by omega)
        exact hb this
/-- A raw image's bytes, cut off, are too short. -/
theorem par_cut {most : Int} (hmo : most ≤ 100) {m : Img} (hg : GoodI most m) {k : Int} (hk : k ∈ Q4 m.c m.m) (h4 : ¬ k < 4) {n : Nat} (hn : n < (wrI m k).length) : (Yu (QS 4096) (QT 65536) (QU 65535) ((wrI m k).take n)).2.2 = 6 := by
  obtain ⟨hMay, hfit, hfm⟩ := good_fits hmo hg hk
  have hM2 := hMay
  unfold XG at hM2
  have hL : LimO 4096 65536 65535 := ⟨by omega, by omega, by omega⟩
  rw [Vn.1, Vn.2.1, Vn.2.2]
  have hP := fun bs => hdP_back hL hMay (by omega) (by omega) (by omega) bs
  have hpl := hg.2.2.2.2.1
  obtain ⟨Wn, hWn⟩ := Int.eq_ofNat_of_zero_le (show 0 ≤ m.w by omega)
  obtain ⟨Hn, hHn⟩ := Int.eq_ofNat_of_zero_le (show 0 ≤ m.h by omega)
  have hpn : m.px.length = Wn * Hn := by rw [hWn, hHn] at hpl; exact_mod_cast hpl
  have hwl := Ya (K := k) (w := Qg m.m) (Q1 m.m) hpn (fun p hp => by have := ZZ (hfit p hp); omega) Hn (Nat.le_refl _)
  have hsb := XB (K := k) (W := Wn) (Q1 m.m) (by omega) (by omega)
  have hcan : ∀ p ∈ m.px, Can (QR k) m.m p := fun p hp => fit_canU (hg.2.2.2.2.2 p hp).2.1 (hfit p hp) (by omega)
  have hb := raw_back (K := k) (M := m.m) (W := Wn) (Hn := Hn) (by omega) (by omega) (fun h => hM2.2.2.2.2 (.inr h)) hpn hcan (List.replicate (QE k Wn (Qg m.m)) 0) (by simp) 0
  have hwq := readW_raw (h := ⟨k, m.w, m.h, m.m, 0, 0, X5, 1, 0⟩) ⟨rfl, rfl, hMay⟩ (Xl k Wn (Qg m.m) m.px Hn) (List.replicate (QE k Wn (Qg m.m)) 0) (by simp [hWn]) (by simp; omega)
  dsimp only at hwq
  rw [hWn, hHn, Int.toNat_natCast, Int.toNat_natCast, hb] at hwq
  have hnb : ¬ Y0 k Wn Hn m.m (Xl k Wn (Qg m.m) m.px Hn) > 0 := fun q => by
    unfold rawF at hwq
    rw [if_pos q] at hwq
    have := congrArg (·.2) hwq
    simp at this
  have hwe : wrI m k = hdW k m.w m.h m.m ++ Xl k Wn (Qg m.m) m.px Hn := by unfold wrI; rw [if_neg h4, hWn, hHn]; rfl
  rw [hwe] at hn ⊢
  rw [List.take_append]
  by_cases hh : (hdW k m.w m.h m.m).length ≤ n
  · rw [List.take_of_length_le hh]
    have hr : rawF k Wn Hn m.m ((Xl k Wn (Qg m.m) m.px Hn).take (n - (hdW k m.w m.h m.m).length)) = ([], 6) := by
      unfold rawF
      rw [if_neg (badR_take hnb _), if_pos]
      rw [List.length_take, hwl]
      rw [List.length_append, hwl] at hn
      have := Nat.mul_comm Hn (QE k Wn (Qg m.m))
      omega
    have hq := parF_re (x := 6) (out := []) (hP ((Xl k Wn (Qg m.m) m.px Hn).take (n - (hdW k m.w m.h m.m).length))) (by omega) (by simp only [Int.toNat_natCast, List.drop_left]; rw [show m.w.toNat = Wn by omega, show m.h.toNat = Hn by omega]; exact hr) (by decide)
    rw [hq]
  · have hcs : (Xl k Wn (Qg m.m) m.px Hn).take (n - (hdW k m.w m.h m.m).length) = [] := by rw [show n - (hdW k m.w m.h m.m).length = 0 by omega]; rfl
    rw [hcs, List.append_nil]
    obtain ⟨t, e⟩ := hd_back hL hMay (by omega) (by omega) (by omega) ([] : List Int)
    rw [List.append_nil] at e
    have hin := hdRun_inv 4096 65536 65535 hL ((hdW k m.w m.h m.m).take n) hd0 0 (hdJ0 _ _ _)
    have hl0 : (Xj 4096 65536 65535 hd0 ((hdW k m.w m.h m.m).take n) 0).1.last = 0 := by
      refine Classical.byContradiction fun hne => ?_
      have hs := hdRun_stop 4096 65536 65535 _ ((hdW k m.w m.h m.m).drop n) hd0 0 hne rfl
      rw [List.take_append_drop, e] at hs
      have hc := congrArg (·.2) hs
      dsimp only at hc
      have := hin.2.2.2.2
      rw [← hc, List.length_take] at this
      omega
    have hq : XW 4096 65536 65535 ((hdW k m.w m.h m.m).take n) = ((0, 0, 0, 0), (((hdW k m.w m.h m.m).take n).length : Int), 6) := by
      rw [Y2]
      unfold Zj
      rw [if_neg (by omega), if_neg (by omega)]
    rw [parF_e hq (by decide)]
theorem wrI_4 (m : Img) (k : Int) : 4 ≤ (wrI m k).length := by
  unfold wrI hdW
  simp only [List.length_append, List.length_cons, List.length_nil]
  omega

end Go.Proofs.YtggamdlpiejbiaaGreat
