/- Walks and plain laws, a part of the proof of ImageParses: every input that the law's guards let in, no condition beside. -/
import Derived.Test.YtggamdlpiejbiaaGreatM27
namespace Go.Proofs.YtggamdlpiejbiaaGreat
open Go.RowKit Go.Shelf

set_option maxHeartbeats 1000000 in
theorem rParse10_spec (A0 : HP) (a0 : Option Addr) (c0 : Nat) (bs : List Int) (hA : RdsL [A0] a0 (Xm bs)) (hbs : ∀ x ∈ bs, 0 ≤ x ∧ x ≤ 255) (hc0 : bs.length ≤ c0) (hbl : bs.length ≤ 1000000000) (a b d : Int) : Fn Tryz.prog 39 #[.slice a0 bs.length c0, .agg #[.int .i64 a, .int .i64 b, .int .i64 d]] [A0] (fun v l => ∃ aR cR, v = .tuple #[.agg #[.int .i64 (X7 (QR a) (QS b) (QT d) bs).1.c, .int .i64 (X7 (QR a) (QS b) (QT d) bs).1.m, .int .i64 (X7 (QR a) (QS b) (QT d) bs).1.w, .int .i64 (X7 (QR a) (QS b) (QT d) bs).1.h, .slice aR (X7 (QR a) (QS b) (QT d) bs).1.px.length cR], .int .i64 (X7 (QR a) (QS b) (QT d) bs).2.1, .int .i64 (X7 (QR a) (QS b) (QT d) bs).2.2] ∧ l = [QU 92 1 aR cR (X7 (QR a) (QS b) (QT d) bs).1.px.length (XJ (X7 (QR a) (QS b) (QT d) bs).1.px), A0]) := by
 obtain ⟨⟨⟨K, W, H, M⟩, n, e⟩, hPd⟩ : ∃ P, XS (QR a) (QS b) (QT d) bs = P := ⟨_, rfl⟩
 have hok := hdP_ok (QR a) (QS b) (QT d) (lim_o a b d) bs
 rw [hPd] at hok
 dsimp only at hok
 obtain ⟨nn, rfl⟩ := Int.eq_ofNat_of_zero_le hok.2.1
 have hnl : nn ≤ bs.length := by omega
 have hAy : RdsL [A0] (sla a0 nn c0 1) (Xm (bs.drop nn)) := by have q := hA.sla nn bs.length c0 1 hc0; rwa [u8s_from] at q
 have hbd : ∀ x ∈ bs.drop nn, 0 ≤ x ∧ x ≤ 255 := fun x hx => hbs x (List.mem_of_mem_drop hx)
 have hdl : (bs.drop nn).length = bs.length - nn := List.length_drop
 refine Ql (vs := [.slice a0 bs.length c0, .agg #[.int .i64 a, .int .i64 b, .int .i64 d]]) Tryz.func39 rfl Tryz.ntmps39 rfl (Qb (Qa (Q1 rfl rfl rfl ?_)))
 intro gB
 refine XC rfl ?_
 intro gM
 refine Qd rfl rfl (Qd rfl rfl (WpL.nil (Qb (Qa (Qc rfl rfl (s_b2sR rfl Tryz.underlying22 Tryz.underlying5 Tryz.underlying9 rfl hA (by exact Take.ent' (by repeat' constructor)) rfl ?_))))))
 refine Qv (vs := [_, _, _]) rfl rfl rfl (by rfl) ?_
 refine Qi rfl rfl (by repeat' constructor) (rParse_alt a b d bs hbs hbl hPd) ?_
 intro v0 m0 hN0
 rcases hN0 with ⟨hE, rfl, rfl⟩ | ⟨hE, rfl, rfl⟩
 ·simp only [Qr]
  subst hE
  have hMay := hok.1 rfl
  have hM2 := hMay
  unfold XP at hM2
  obtain ⟨Wn, rfl⟩ := Int.eq_ofNat_of_zero_le (show 0 ≤ W by omega)
  obtain ⟨Hn, rfl⟩ := Int.eq_ofNat_of_zero_le (show 0 ≤ H by omega)
  have hsb := XE (K := K) (W := Wn) (Q8 M) (by omega) (by omega)
  have hsz : QF K Wn (Qj M) * Hn ≤ 24576 * 65536 := Nat.mul_le_mul hsb.2 (by omega)
  refine Qc rfl rfl (QB rfl rfl rfl (QB rfl rfl rfl (QB rfl rfl rfl (XC rfl ?_))))
  intro gH
  refine QC rfl rfl rfl (by rfl) rfl ?_
  refine Qd rfl rfl (Qd rfl rfl (WpL.nil (Qb (Qb (Qa (Qc rfl rfl (Xn rfl rfl rfl (WpL.nil (Qy rfl (fun h => h rfl) ?_)))))))))
  refine Wp.skip (Qb (Qb (Qa (Qk (o2 := 0) rfl rfl rfl (Qn rfl rfl (by rfl) ?_)))))
  refine Q7 rfl rfl rfl (WpL.nil (Qh rfl (fun h1 => ?_) (fun h1 => ?_)))
  ·refine Qb ?_
   apply Xa (fB := []) mixed [(5, false)] (by kernel_rfl)
   apply Q4 [⟨0, 31, _, [], false⟩, ⟨1, 32, _, [], false⟩, ⟨2, 33, _, [0, 1], false⟩, ⟨3, 34, _, [2], false⟩, ⟨4, 35, _, [], false⟩] [] [0, 1, 2, 3, 4] [30, 37, 38, 39, 10, 11, 12] (.inr rfl) rfl rfl rfl (by kernel_rfl) rfl rfl rfl
   ·refine AllF.cons rfl rfl rfl rfl ?_ ?_
    ·exact Qc rfl rfl (Qm rfl)
    refine AllF.cons rfl rfl rfl rfl ?_ ?_
    ·exact Qc rfl rfl (Qm rfl)
    refine AllF.cons rfl rfl rfl rfl ?_ ?_
    ·refine ZW (L := nn) rfl rfl rfl (by omega) (by omega) ?_
     rw [show bs.length - nn = (bs.drop nn).length from List.length_drop.symm]
     exact Qm rfl
    refine AllF.cons rfl rfl rfl rfl ?_ ?_
    ·refine s_b2sR rfl Tryz.underlying22 Tryz.underlying5 Tryz.underlying9 rfl hAy (by exact Take.ent' (by repeat' constructor)) rfl ?_
     exact Qm rfl
    refine AllF.cons rfl rfl rfl rfl ?_ ?_
    ·refine Qv (vs := [_, _, _, _]) rfl rfl rfl (by rfl) ?_
     exact Qm rfl
    exact AllF.nil
   ·refine Qi rfl rfl (by repeat' constructor) (rRead_spec (strOfNums (bs.drop nn)) (by rw [Ys]; omega) K (Wn : Int) (Hn : Int) M) ?_
    rintro _ _ ⟨out, i, x, a3, c3, hrd, rfl, rfl⟩
    simp only [Qr]
    rw [Yb hbd] at hrd
    have hib := readS_i (K := K) (W := (Wn : Int)) (H := (Hn : Int)) (M := M) (bs.drop nn)
    rw [← hrd] at hib
    dsimp only at hib
    refine WpL.nil ⟨rfl, rfl, ?_⟩
    apply GoR.nil [⟨6, 30, _, [5], false⟩, ⟨7, 37, _, [6], false⟩, ⟨8, 38, _, [6], false⟩, ⟨9, 39, _, [6], false⟩, ⟨10, 10, _, [0, 1, 2, 3, 4, 5, 6, 7], false⟩, ⟨11, 11, _, [0, 1, 2, 3, 4, 5, 6, 7, 8, 10], false⟩, ⟨12, 12, _, [0, 1, 2, 3, 4, 5, 6, 7, 8, 9, 10, 11], false⟩] (.inr rfl) rfl rfl
    ·refine AllF.cons rfl rfl rfl rfl ?_ ?_
     ·exact Qc rfl rfl (Qm rfl)
     refine AllF.cons rfl rfl rfl rfl ?_ ?_
     ·exact QB rfl rfl rfl (Qm rfl)
     refine AllF.cons rfl rfl rfl rfl ?_ ?_
     ·exact QB rfl rfl rfl (Qm rfl)
     refine AllF.cons rfl rfl rfl rfl ?_ ?_
     ·exact QB rfl rfl rfl (Qm rfl)
     refine AllF.cons rfl rfl rfl rfl ?_ ?_
     ·exact Qd rfl rfl (Qm rfl)
     refine AllF.cons rfl rfl rfl rfl ?_ ?_
     ·exact Qd rfl rfl (Qm rfl)
     refine AllF.cons rfl rfl rfl rfl ?_ ?_
     ·exact Qd rfl rfl (Qm rfl)
     exact AllF.nil
    ·refine Qb (Qb (Qa (Qc rfl rfl (Xn rfl rfl rfl (WpL.nil (Qh rfl (fun h2 => ?_) (fun h2 => ?_)))))))
     ·refine Qb (Qa ?_)
      refine Xr rfl rfl ?_
      refine Qc rfl rfl ?_
      refine QC rfl rfl rfl (by rfl) rfl ?_
      refine Qd rfl rfl (Qd rfl rfl (WpL.nil (Qg ?_)))
      apply RetQ.mk
      ·exact (QL rfl rfl (by rfl) rfl rfl)
      ·exact ⟨none, 0, by rw [parF_pe hPd (by omega) (by simpa using hrd.symm) (by assumption)]; rfl, rfl⟩
      ·rw [parF_pe hPd (by omega) (by simpa using hrd.symm) (by assumption)]
       exact Ent.own_nil (Take.ent' (by repeat' constructor))
     ·obtain rfl : x = 0 := Classical.not_not.1 h2
      refine Wp.skip (Qb ?_)
      apply Xa (fB := []) mixed [(12, false)] (by kernel_rfl)
      apply Q4 [⟨0, 44, _, [], false⟩, ⟨1, 45, _, [0], false⟩, ⟨2, 46, _, [], false⟩, ⟨3, 47, _, [2], false⟩, ⟨4, 48, _, [], false⟩, ⟨5, 49, _, [4], false⟩, ⟨6, 50, _, [], false⟩, ⟨7, 51, _, [3, 5, 6], false⟩, ⟨8, 52, _, [1, 7], false⟩, ⟨9, 53, _, [], true⟩, ⟨10, 54, _, [], true⟩, ⟨11, 55, _, [9, 10], true⟩] [] [0, 1, 2, 3, 4, 5, 6, 7, 8] [5, 6, 53, 54, 55] (.inl ⟨_, .nil⟩) rfl rfl rfl (by kernel_rfl) rfl rfl rfl
      ·refine AllF.cons rfl rfl rfl rfl ?_ ?_
       ·refine Qv (vs := [_, _, _, _]) rfl rfl rfl (by rfl) ?_
        exact Qm rfl
       refine AllF.cons rfl rfl rfl rfl ?_ ?_
       ·refine Qi rfl rfl (by repeat' constructor) (Zt _ _ _ _ (by omega) (by omega)) ?_
        rintro _ _ ⟨rfl, rfl⟩
        simp only [Qr]
        exact WpL.nil ⟨rfl, rfl, rfl, by exact Ent.refl _⟩
       refine AllF.cons rfl rfl rfl rfl ?_ ?_
       ·exact Qk (o2 := 1) rfl rfl rfl (Qm rfl)
       refine AllF.cons rfl rfl rfl rfl ?_ ?_
       ·refine Qn rfl rfl (by rfl) ?_
        exact Qm rfl
       refine AllF.cons rfl rfl rfl rfl ?_ ?_
       ·exact Qk (o2 := 2) rfl rfl rfl (Qm rfl)
       refine AllF.cons rfl rfl rfl rfl ?_ ?_
       ·refine Qn rfl rfl (by rfl) ?_
        exact Qm rfl
       refine AllF.cons rfl rfl rfl rfl ?_ ?_
       ·exact Qc rfl rfl (Qm rfl)
       refine AllF.cons rfl rfl rfl rfl ?_ ?_
       ·refine Xr rfl rfl ?_
        exact Qm rfl
       refine AllF.cons rfl rfl rfl rfl ?_ ?_
       ·refine Xr rfl rfl ?_
        exact Qm rfl
       refine QE rfl rfl rfl rfl ?_ ?_
       ·exact Qc rfl rfl (Qm rfl)
       refine QE rfl rfl rfl rfl ?_ ?_
       ·exact Qc rfl rfl (Qm rfl)
       refine QE rfl rfl rfl rfl ?_ ?_
       ·refine QA rfl rfl rfl (Qo (by omega) (by omega)) ?_
        exact Qm rfl
       exact AllF.nil
      ·refine QC rfl rfl rfl (by rfl) rfl ?_
       refine WpL.nil ⟨rfl, rfl, ?_⟩
       apply GoR.nil [⟨13, 5, _, [0, 1, 2, 3, 4, 5, 6, 7, 8, 9, 10, 11, 12], false⟩, ⟨14, 6, _, [0, 1, 2, 3, 4, 5, 6, 7, 8, 9, 10, 11, 12, 13], false⟩] (.inl ⟨_, .nil⟩) rfl rfl
       ·refine AllF.cons rfl rfl rfl rfl ?_ ?_
        ·exact Qd rfl rfl (Qm rfl)
        refine AllF.cons rfl rfl rfl rfl ?_ ?_
        ·exact Qd rfl rfl (Qm rfl)
        exact AllF.nil
       ·refine Qg ?_
        apply RetQ.mk
        ·exact (QL rfl rfl (by rfl) rfl rfl)
        ·exact ⟨a3, c3, by rw [parF_p (out := out) (i := i) hPd (by omega) (by simpa using hrd.symm)]; try rfl, rfl⟩
        ·rw [parF_p (out := out) (i := i) hPd (by omega) (by simpa using hrd.symm)]
         exact Take.ent' (by repeat' constructor)
  ·refine Wp.skip (Qb ?_)
   apply Xa (fB := []) mixed [(4, false)] (by kernel_rfl)
   apply Q4 [⟨0, 57, _, [], false⟩, ⟨1, 58, _, [], false⟩, ⟨2, 59, _, [0, 1], false⟩, ⟨3, 60, _, [], false⟩] [] [0, 1, 2, 3] [56, 62, 63, 13, 14] (.inr rfl) rfl rfl rfl (by kernel_rfl) rfl rfl rfl
   ·refine AllF.cons rfl rfl rfl rfl ?_ ?_
    ·exact Qc rfl rfl (Qm rfl)
    refine AllF.cons rfl rfl rfl rfl ?_ ?_
    ·exact Qc rfl rfl (Qm rfl)
    refine AllF.cons rfl rfl rfl rfl ?_ ?_
    ·refine ZW (L := nn) rfl rfl rfl (by omega) (by omega) ?_
     rw [show bs.length - nn = (bs.drop nn).length from List.length_drop.symm]
     exact Qm rfl
    refine AllF.cons rfl rfl rfl rfl ?_ ?_
    ·refine Qv (vs := [_, _, _, _]) rfl rfl rfl (by rfl) ?_
     exact Qm rfl
    exact AllF.nil
   ·refine Qi rfl rfl (by repeat' constructor) (rRead09_spec A0 (sla a0 nn c0 1) (c0 - nn) (bs.drop nn) hAy hbd (by omega) (by omega) K Wn Hn M ⟨hMay, by omega⟩) ?_
    rintro _ _ ⟨out, er, a3, c3, hrd, rfl, rfl⟩
    simp only [Qr]
    refine WpL.nil ⟨rfl, rfl, ?_⟩
    apply GoR.nil [⟨5, 56, _, [4], false⟩, ⟨6, 62, _, [5], false⟩, ⟨7, 63, _, [5], false⟩, ⟨8, 13, _, [0, 1, 2, 3, 4, 5, 6], false⟩, ⟨9, 14, _, [0, 1, 2, 3, 4, 5, 6, 7, 8], false⟩] (.inr rfl) rfl rfl
    ·refine AllF.cons rfl rfl rfl rfl ?_ ?_
     ·exact Qc rfl rfl (Qm rfl)
     refine AllF.cons rfl rfl rfl rfl ?_ ?_
     ·exact QB rfl rfl rfl (Qm rfl)
     refine AllF.cons rfl rfl rfl rfl ?_ ?_
     ·exact QB rfl rfl rfl (Qm rfl)
     refine AllF.cons rfl rfl rfl rfl ?_ ?_
     ·exact Qd rfl rfl (Qm rfl)
     refine AllF.cons rfl rfl rfl rfl ?_ ?_
     ·exact Qd rfl rfl (Qm rfl)
     exact AllF.nil
    ·refine Qb (Qb (Qa (Qc rfl rfl (Xn rfl rfl rfl (WpL.nil (Qh rfl (fun h3 => ?_) (fun h3 => ?_)))))))
     ·refine Qb (Qa ?_)
      refine Xr rfl rfl ?_
      refine Qc rfl rfl ?_
      refine QC rfl rfl rfl (by rfl) rfl ?_
      refine Qd rfl rfl (Qd rfl rfl (WpL.nil (Qg ?_)))
      apply RetQ.mk
      ·exact (QL rfl rfl (by rfl) rfl rfl)
      ·exact ⟨none, 0, by rw [parF_re hPd (by omega) (by simpa using hrd.symm) (by assumption)]; rfl, rfl⟩
      ·rw [parF_re hPd (by omega) (by simpa using hrd.symm) (by assumption)]
       exact Ent.own_nil (Take.ent' (by repeat' constructor))
     ·obtain rfl : er = 0 := Classical.not_not.1 h3
      refine Wp.skip (Qb ?_)
      apply Xa (fB := []) mixed [(13, false)] (by kernel_rfl)
      apply Q4 [⟨0, 68, _, [], false⟩, ⟨1, 69, _, [0], false⟩, ⟨2, 70, _, [], false⟩, ⟨3, 71, _, [2], false⟩, ⟨4, 72, _, [], false⟩, ⟨5, 73, _, [4], false⟩, ⟨6, 74, _, [], false⟩, ⟨7, 75, _, [3, 5, 6], false⟩, ⟨8, 76, _, [1, 7], false⟩, ⟨9, 77, _, [], true⟩, ⟨10, 78, _, [], false⟩, ⟨11, 79, _, [1, 10], false⟩, ⟨12, 80, _, [9, 11], true⟩] [] [0, 1, 2, 3, 4, 5, 6, 7, 8, 10, 11] [5, 6, 77, 80] (.inl ⟨_, .nil⟩) rfl rfl rfl (by kernel_rfl) rfl rfl rfl
      ·refine AllF.cons rfl rfl rfl rfl ?_ ?_
       ·refine Qv (vs := [_, _, _, _]) rfl rfl rfl (by rfl) ?_
        exact Qm rfl
       refine AllF.cons rfl rfl rfl rfl ?_ ?_
       ·refine Qi rfl rfl (by repeat' constructor) (Zt _ _ _ _ (by omega) (by omega)) ?_
        rintro _ _ ⟨rfl, rfl⟩
        simp only [Qr]
        exact WpL.nil ⟨rfl, rfl, rfl, by exact Ent.refl _⟩
       refine AllF.cons rfl rfl rfl rfl ?_ ?_
       ·exact Qk (o2 := 1) rfl rfl rfl (Qm rfl)
       refine AllF.cons rfl rfl rfl rfl ?_ ?_
       ·refine Qn rfl rfl (by rfl) ?_
        exact Qm rfl
       refine AllF.cons rfl rfl rfl rfl ?_ ?_
       ·exact Qk (o2 := 2) rfl rfl rfl (Qm rfl)
       refine AllF.cons rfl rfl rfl rfl ?_ ?_
       ·refine Qn rfl rfl (by rfl) ?_
        exact Qm rfl
       refine AllF.cons rfl rfl rfl rfl ?_ ?_
       ·exact Qc rfl rfl (Qm rfl)
       refine AllF.cons rfl rfl rfl rfl ?_ ?_
       ·refine Xr rfl rfl ?_
        exact Qm rfl
       refine AllF.cons rfl rfl rfl rfl ?_ ?_
       ·refine Xr rfl rfl ?_
        exact Qm rfl
       refine QE rfl rfl rfl rfl ?_ ?_
       ·exact Qc rfl rfl (Qm rfl)
       refine AllF.cons rfl rfl rfl rfl ?_ ?_
       ·refine Qv (vs := [_, _, _, _]) rfl rfl rfl (by rfl) ?_
        exact Qm rfl
       refine AllF.cons rfl rfl rfl rfl ?_ ?_
       ·refine Qi rfl rfl (by repeat' constructor) (Vh K Wn Hn M ⟨hMay, by omega⟩) ?_
        rintro _ _ ⟨rfl, rfl⟩
        simp only [Qr]
        exact WpL.nil ⟨rfl, rfl, rfl, by exact Ent.refl _⟩
       refine QE rfl rfl rfl rfl ?_ ?_
       ·refine QA rfl rfl rfl (Qo (by omega) (by omega)) ?_
        exact Qm rfl
       exact AllF.nil
      ·refine QC rfl rfl rfl (by rfl) rfl ?_
       refine WpL.nil ⟨rfl, rfl, ?_⟩
       apply GoR.nil [⟨14, 5, _, [0, 1, 2, 3, 4, 5, 6, 7, 8, 9, 10, 11, 12, 13], false⟩, ⟨15, 6, _, [0, 1, 2, 3, 4, 5, 6, 7, 8, 9, 10, 11, 12, 13, 14], false⟩] (.inl ⟨_, .nil⟩) rfl rfl
       ·refine AllF.cons rfl rfl rfl rfl ?_ ?_
        ·exact Qd rfl rfl (Qm rfl)
        refine AllF.cons rfl rfl rfl rfl ?_ ?_
        ·exact Qd rfl rfl (Qm rfl)
        exact AllF.nil
       ·refine Qg ?_
        apply RetQ.mk
        ·exact (QL rfl rfl (by rfl) rfl rfl)
        ·exact ⟨a3, c3, by rw [parF_r (out := out) hPd (by omega) (by simpa using hrd.symm)]; try rfl, rfl⟩
        ·rw [parF_r (out := out) hPd (by omega) (by simpa using hrd.symm)]
         exact Take.ent' (by repeat' constructor)
 ·simp only [Qr]
  refine Qc rfl rfl (QB rfl rfl rfl (QB rfl rfl rfl (QB rfl rfl rfl (XC rfl ?_))))
  intro gH
  refine QC rfl rfl rfl (by rfl) rfl ?_
  refine Qd rfl rfl (Qd rfl rfl (WpL.nil (Qb (Qb (Qa (Qc rfl rfl (Xn rfl rfl rfl (WpL.nil (QY rfl hE (Qb (Qa ?_)))))))))))
  refine Xr rfl rfl ?_
  refine Qc rfl rfl ?_
  refine QC rfl rfl rfl (by rfl) rfl ?_
  refine Qd rfl rfl (Qd rfl rfl (WpL.nil (Qg ?_)))
  apply RetQ.mk
  ·exact (QL rfl rfl (by rfl) rfl rfl)
  ·exact ⟨none, 0, by rw [parF_e hPd hE]; rfl, rfl⟩
  ·rw [parF_e hPd hE]
   exact Ent.own_nil (Take.ent' (by repeat' constructor))

end Go.Proofs.YtggamdlpiejbiaaGreat
namespace Go.Proofs.YtggamdlpiejbiaaGreat
open Go.RowKit Go.Shelf


theorem liv_par0 : (X7 (QR 4096) (QS 65536) (QT 65535) [80, 49, 32, 50, 32, 49, 32, 49, 32, 48, 32]).2 = (10, 0) ∧ (X7 (QR 4096) (QS 65536) (QT 65535) [80, 49, 32, 50, 32, 49, 32, 49, 32, 48, 32]).1.c = 1 ∧ (X7 (QR 4096) (QS 65536) (QT 65535) [80, 49, 32, 50, 32, 49, 32, 49, 32, 48, 32]).1.m = 1 ∧ (X7 (QR 4096) (QS 65536) (QT 65535) [80, 49, 32, 50, 32, 49, 32, 49, 32, 48, 32]).1.w = 2 ∧ (X7 (QR 4096) (QS 65536) (QT 65535) [80, 49, 32, 50, 32, 49, 32, 49, 32, 48, 32]).1.h = 1 ∧ (X7 (QR 4096) (QS 65536) (QT 65535) [80, 49, 32, 50, 32, 49, 32, 49, 32, 48, 32]).1.px = [281474976710657, 281474976710656] := by decide +kernel
theorem liv_par : X7 (QR 4096) (QS 65536) (QT 65535) [80, 49, 32, 50, 32, 49, 32, 49, 32, 48, 32] = (⟨1, 1, 2, 1, [281474976710657, 281474976710656]⟩, 10, 0) := by
  obtain ⟨h1, h2, h3, h4, h5, h6⟩ := liv_par0
  generalize X7 (QR 4096) (QS 65536) (QT 65535) [80, 49, 32, 50, 32, 49, 32, 49, 32, 48, 32] = q at *
  obtain ⟨⟨c, m, w, h, px⟩, n, e⟩ := q
  simp_all
theorem liv_wr : wrI ⟨1, 1, 2, 1, [281474976710657, 281474976710656]⟩ 4 = [80, 52, 10, 50, 32, 49, 10, 128] := by decide +kernel
theorem liv_kd : (4 : Int) ∈ Q5 1 1 := by rw [kindsF_1 (by unfold YS; omega) (by decide) rfl]; decide
theorem liv_ft : YO 1 1 2 1 [281474976710657, 281474976710656] := by decide +kernel

theorem lives10_spec  : Fn Tryz.prog 37 #[] [] (fun v l => v = .bool true ∧ l = []) := by
 refine Ql (vs := []) Tryz.func37 rfl Tryz.ntmps37 rfl (Qb (Qa (Qd rfl rfl (WpL.nil (Qb (Qa ?_))))))
 refine s_bs (os := [(0, .const (.int .u8 80)), (1, .const (.int .u8 49)), (2, .const (.int .u8 32)), (3, .const (.int .u8 50)), (4, .const (.int .u8 32)), (5, .const (.int .u8 49)), (6, .const (.int .u8 32)), (7, .const (.int .u8 49)), (8, .const (.int .u8 32)), (9, .const (.int .u8 48)), (10, .const (.int .u8 32))]) [.int .u8 80, .int .u8 49, .int .u8 32, .int .u8 50, .int .u8 32, .int .u8 49, .int .u8 32, .int .u8 49, .int .u8 32, .int .u8 48, .int .u8 32] rfl rfl rfl (by simp [Value.cells]) (by decide) (fun a hh => rfl) ?_
 intro g7
 refine s_b2b rfl Tryz.underlying22 Tryz.underlying5 rfl (by repeat' constructor) ?_
 refine Qi rfl rfl (by repeat' constructor) (hdAll_spec) ?_
 rintro _ _ ⟨rfl, rfl⟩
 simp only [Qr]
 refine Qi rfl rfl (by repeat' constructor) (iParse_spec (cvR 5 g7 11 (Xm [80, 49, 32, 50, 32, 49, 32, 49, 32, 48, 32])) (some ⟨g7, 0, none⟩) 11 [80, 49, 32, 50, 32, 49, 32, 49, 32, 48, 32] RdsL.cvR (by decide) (by decide) (by decide) 4096 65536 65535) ?_
 rintro _ _ ⟨aR, cR, rfl, rfl⟩
 simp only [Qr]
 rw [liv_par]
 dsimp only
 refine YN (T := 92) (s := 1) (a := aR) (c := cR) (by repeat' constructor) (fun hcr => ?_)
 refine Qc rfl rfl (QB rfl rfl rfl (QB rfl rfl rfl (QB rfl rfl rfl (XC rfl ?_))))
 intro gM
 refine QC rfl rfl rfl (by rfl) rfl ?_
 refine Qd rfl rfl (Qd rfl rfl (WpL.nil (Qb (Qa ?_))))
 refine Qv (vs := [_, _, _, _, _]) rfl rfl rfl (by rfl) ?_
 refine Qi rfl rfl (by repeat' constructor) (iWriteN_spec (QU 92 1 aR cR 2 (XJ [281474976710657, 281474976710656])) 1 1 2 1 aR cR [281474976710657, 281474976710656] QX (by decide) hcr (by decide) 4) ?_
 intro v0 m0 hN0
 rcases hN0 with ⟨hT1, hT2, gW, cW, rfl, rfl⟩ | ⟨hT, rfl, rfl⟩
 ·simp only [Qr]
  refine Qc rfl rfl (QB rfl rfl rfl (QB rfl rfl rfl (Qd rfl rfl (Qd rfl rfl (WpL.nil (Qb (Qa (Qc rfl rfl (QH rfl rfl rfl (Qc rfl rfl (Qw (dj := 21) rfl rfl ?_)))))))))))
  refine Qf rfl rfl (Qc rfl rfl (Qf rfl rfl (QH rfl rfl rfl (Qq rfl rfl rfl (Qc rfl rfl (Qw (dj := 25) rfl rfl ?_))))))
  refine Qf rfl rfl (Qc rfl rfl (Qf rfl rfl (QH rfl rfl rfl (Qq rfl rfl rfl (Qc rfl rfl (Qw (dj := 29) rfl rfl ?_))))))
  refine Qf rfl rfl (Qc rfl rfl (Qf rfl rfl (s_b2sR rfl Tryz.underlying22 Tryz.underlying5 Tryz.underlying9 rfl (RdsL.rdo (g := gW) (xs := Xm (wrI ⟨1, 1, 2, 1, [281474976710657, 281474976710656]⟩ 4))) (by exact Take.ent' (by repeat' constructor)) rfl ?_)))
  refine Qf rfl rfl ?_
  refine s_bs (os := [(0, .const (.int .u8 80)), (1, .const (.int .u8 52)), (2, .const (.int .u8 10)), (3, .const (.int .u8 50)), (4, .const (.int .u8 32)), (5, .const (.int .u8 49)), (6, .const (.int .u8 10)), (7, .const (.int .u8 128))]) [.int .u8 80, .int .u8 52, .int .u8 10, .int .u8 50, .int .u8 32, .int .u8 49, .int .u8 10, .int .u8 128] rfl rfl rfl (by simp [Value.cells]) (by decide) (fun a hh => rfl) ?_
  intro g32
  refine Qf rfl rfl (s_b2sR rfl Tryz.underlying22 Tryz.underlying5 Tryz.underlying9 rfl (RdsL.blk (g := g32) (o := 0) (T := 5) (cs := Xm [80, 52, 10, 50, 32, 49, 10, 128]) (xs := Xm [80, 52, 10, 50, 32, 49, 10, 128]) rfl) (by exact Take.ent' (by repeat' constructor)) rfl ?_)
  refine Qf rfl rfl (s_seq rfl rfl rfl (Qq rfl rfl rfl (Qd rfl rfl (WpL.nil (Qg ?_)))))
  apply RetQ.mk
  ·exact (Res.one rfl rfl)
  ·exact ⟨congrArg Value.bool (decide_eq_true (by have q := liv_wr; exact congrArg strOfNums q)), rfl⟩
  ·exact Ent.nil _
 ·simp only [Qr]
  exfalso
  exact hT ⟨liv_kd, liv_ft⟩

end Go.Proofs.YtggamdlpiejbiaaGreat
namespace Go.Proofs.YtggamdlpiejbiaaGreat
open Go.RowKit Go.Shelf


theorem WpL.cvLe {P : Program} {n : Cx} {D : List Deferred} {ops : Array Oper} {rest : List Oper} {Q : Post} {fr : Fr} {l : List HP} {e g c : Nat} {xs : List Value} {F : List HP} (ht : Take1 l (cvR e g c xs) F) (k : xs.length ≤ c → WpL P n D ops rest Q fr l) : WpL P n D ops rest Q fr l := fun A w U hh hs => by
  refine k ?_ A w U hh hs
  obtain ⟨S, hp, _⟩ := ht.ent w U hs
  obtain ⟨_, _, _, _, h, _⟩ := hp
  exact h

theorem rWrite10c_spec (A0 : HP) (m : Img) (a : Option Addr) (c : Nat) (hA : RdsL [A0] a (XJ m.px)) (most : Int) (hmo : most ≤ 100) (hg : GoodI most m) (k : Int) (hk : k ∈ Q5 m.c m.m) : Fn Tryz.prog 34 #[.agg #[.int .i64 m.c, .int .i64 m.m, .int .i64 m.w, .int .i64 m.h, .slice a m.px.length c], .int .i64 k] [A0] (fun v l => ∃ B b e, RdsL [B] b (Xm (wrI m k)) ∧ (wrI m k).length ≤ e ∧ v = .tuple #[.slice b (wrI m k).length e, .int .i64 0] ∧ l = [B, A0]) := by
 obtain ⟨hMay, hfit, hfm⟩ := good_fits hmo hg hk
 obtain ⟨hz1, hz2⟩ := good_sz hmo hg
 have hb : ∀ p ∈ m.px, 0 ≤ p ∧ p < 18446744073709551616 := fun p hp => (hg.2.2.2.2.2 p hp).2
 have hM2 := hMay
 unfold XP at hM2
 obtain ⟨_, hg2, hgw, hgh, hgl, _⟩ := id hg
 have hWn : ((m.w.toNat : Nat) : Int) = m.w := by omega
 have hHn : ((m.h.toNat : Nat) : Int) = m.h := by omega
 have hz6 := hdW_len (K := k) (W := m.w) (H := m.h) (M := m.m) (by omega) (by omega) (by omega) (by omega)
 refine Ql (vs := [.agg #[.int .i64 m.c, .int .i64 m.m, .int .i64 m.w, .int .i64 m.h, .slice a m.px.length c], .int .i64 k]) Tryz.func34 rfl Tryz.ntmps34 rfl (Qb (Qa (Q1 rfl rfl rfl ?_)))
 intro gI
 refine Qd rfl rfl (Qd rfl rfl (WpL.nil (Qb (Qa ?_))))
 refine Qv (vs := [_, _, _, _, _]) rfl rfl rfl (by rfl) ?_
 refine Qc rfl rfl (Qi rfl rfl (by repeat' constructor) (rTells_spec [A0] m.c m.m m.w m.h a c m.px hA hb (by omega) k) ?_)
 rintro _ _ ⟨rfl, rfl⟩
 simp only [Qr]
 refine Qd rfl rfl (WpL.nil (Qb (Qb (Qa (Qc rfl rfl (XN rfl rfl (WpL.nil (Qh rfl (fun h0 => ?_) (fun h0 => ?_)))))))))
 ·exfalso; exact absurd ⟨hk, hfm⟩ h0
 ·refine Wp.skip (Qb (Qa (Qc rfl rfl (Qk (o2 := 2) rfl rfl rfl (Qk (o2 := 2) rfl rfl rfl (Qn rfl rfl (by rfl) ?_))))))
  refine Qk (o2 := 2) rfl rfl rfl (Qk (o2 := 3) rfl rfl rfl (Qn rfl rfl (by rfl) ?_))
  refine Qk (o2 := 0) rfl rfl rfl (Qk (o2 := 1) rfl rfl rfl (Qn rfl rfl (by rfl) ?_))
  refine Xr rfl rfl ?_
  refine XC rfl ?_
  intro gH
  refine QC rfl rfl rfl (by rfl) rfl ?_
  refine WpL.nil (Qb (Qa ?_))
  refine Qv (vs := [_, _, _, _]) rfl rfl rfl (by rfl) ?_
  refine Qi rfl rfl (by repeat' constructor) (rWrite06_spec _ _ _ _ hMay) ?_
  rintro _ _ ⟨s6, hs6, rfl, rfl⟩
  simp only [Qr]
  have hs6z : s6.size ≤ 100000 := by rw [← Q0, hs6]; exact hz6
  refine Qc rfl rfl (QB rfl rfl rfl (QB rfl rfl rfl (Qd rfl rfl (Qd rfl rfl (WpL.nil (Qb (Qb (Qa (Qc rfl rfl (Q7 rfl rfl rfl (WpL.nil (Qh rfl (fun h1 => ?_) (fun h1 => ?_)))))))))))))
  ·refine Qb (Qa (Qk (o2 := 2) rfl rfl rfl (Qk (o2 := 4) rfl rfl rfl (Qn rfl rfl (by rfl) ?_))))
   refine Qv (vs := [_, _, _, _]) rfl rfl rfl (by rfl) ?_
   refine Qi rfl rfl (by repeat' constructor) (rWrite_spec A0 a c m.px hA hb (by omega) k m.w m.h m.m) ?_
   rintro _ _ ⟨s8, e8, rfl, hs8, rfl⟩
   simp only [Qr]
   obtain ⟨_, rfl, hs8, hz8⟩ : WrP k m.w m.h m.m m.px ∧ e8 = 0 ∧ QK s8 = wrL k m.w 0 m.px ∧ s8.size ≤ m.px.length * 300000 := by
    rcases hs8 with q | q
    ·exact q
    ·exact absurd (⟨⟨hMay, by omega⟩, hgl, hfit⟩ : WrP k m.w m.h m.m m.px) q.1
   refine Qc rfl rfl (QB rfl rfl rfl (QB rfl rfl rfl (Qd rfl rfl (Qd rfl rfl (WpL.nil (Qb (Qa (Qc rfl rfl (Qc rfl rfl (Yq rfl rfl rfl (by omega) ?_))))))))))
   refine s_t2bc rfl Tryz.underlying9 Tryz.underlying22 Tryz.underlying5 rfl ?_
   intro gB cB
   refine WpL.cvLe (by repeat' constructor) (fun hcB => ?_)
   rw [Xc] at hcB
   rw [show QK (s6 ++ s8) = wrI m k by rw [X4, hs6, hs8, wrI, if_pos (by omega)]] at hcB ⊢
   refine Qd rfl rfl (Qd rfl rfl (WpL.nil (Qg ?_)))
   apply RetQ.mk
   ·exact (QM rfl rfl rfl)
   ·exact ⟨cvR 5 gB cB _, _, cB, RdsL.cvR, hcB, rfl, rfl⟩
   ·exact Take.ent' (by repeat' constructor)
  ·have hpl : m.px.length = m.w.toNat * m.h.toNat := by
    have q : ((m.w.toNat * m.h.toNat : Nat) : Int) = m.w * m.h := by rw [Int.natCast_mul, hWn, hHn]
    omega
   have hw9 := rWrite09_spec A0 a c m.px hA hb k m.w.toNat m.h.toNat m.m (by rw [hWn, hHn]; exact ⟨hMay, by omega⟩) hpl hfit (by omega)
   rw [hWn, hHn] at hw9
   have hwl := Yt (K := k) (w := Qj m.m) (Q8 m.m) hpl (fun p hp => by have := can_fit (hfit p hp); omega) m.h.toNat (Nat.le_refl _)
   have hsb := XE (K := k) (W := m.w.toNat) (Q8 m.m) (by omega) (by omega)
   have hwl2 : (Xp k m.w.toNat (Qj m.m) m.px m.h.toNat).length ≤ 24576 * 100 := by rw [hwl]; exact Nat.mul_le_mul hsb.2 (by omega)
   refine Wp.skip (Qb (Qa (Qk (o2 := 2) rfl rfl rfl (Qk (o2 := 4) rfl rfl rfl (Qn rfl rfl (by rfl) ?_)))))
   refine Qv (vs := [_, _, _, _]) rfl rfl rfl (by rfl) ?_
   refine Qi rfl rfl (by repeat' constructor) (hw9) ?_
   rintro _ _ ⟨a9, c9, rfl, rfl⟩
   simp only [Qr]
   refine Qc rfl rfl (QB rfl rfl rfl (QB rfl rfl rfl (Qd rfl rfl (Qd rfl rfl (WpL.nil (Qb (Qa (Qd rfl rfl (WpL.nil (Qb (Qa (Qc rfl rfl ?_))))))))))))
   refine Qc rfl rfl (s_t2bc rfl Tryz.underlying9 Tryz.underlying22 Tryz.underlying5 rfl ?_)
   intro gB cB
   refine WpL.cvLe (by repeat' constructor) (fun hcB => ?_)
   rw [Xc] at hcB
   rw [hs6]
   refine WpL.ent (Ent.own_nil (T := 5) (s := 1) (Ent.refl _)) ?_
   refine s_appR (xs := []) (m2 := (hdW k m.w m.h m.m).length) rfl rfl rfl (by repeat' constructor) RdsL.cvR (by exact Take.ent' (by repeat' constructor)) (by rw [Xc, Nat.mul_one]) (by rfl) (by rfl) (Zx _) (by omega) (by omega) ?_
   intro a61 c61
   rw [List.nil_append, Nat.zero_add]
   refine Qd rfl rfl (WpL.nil (Qb (Qa (Qc rfl rfl (Qc rfl rfl (ZG rfl rfl rfl (by repeat' constructor) (by rfl) (by rfl) (Zx _) (by omega) (by omega) ?_))))))
   intro a64 c64
   rw [u8s_app, ← List.length_append, show hdW k m.w m.h m.m ++ Xp k m.w.toNat (Qj m.m) m.px m.h.toNat = wrI m k by rw [wrI, if_neg (by omega)]]
   refine YN (by repeat' constructor) (fun hco => ?_)
   refine Qd rfl rfl (Qd rfl rfl (WpL.nil (Qg ?_)))
   apply RetQ.mk
   ·exact (QM rfl rfl rfl)
   ·exact ⟨QU 5 1 a64 c64 (wrI m k).length (Xm (wrI m k)), a64, c64, QX, hco, rfl, rfl⟩
   ·exact Take.ent' (by repeat' constructor)

end Go.Proofs.YtggamdlpiejbiaaGreat
namespace Go.Proofs.YtggamdlpiejbiaaGreat
open Go.RowKit Go.Shelf


theorem kinds_posF {C M : Int} (h : YS C M) : 0 < (Q5 C M).length := by
  by_cases h3 : C = 3
  · rw [kindsF_3 h h3]; decide
  · by_cases h1 : M = 1
    · rw [kindsF_1 h h3 h1]; decide
    · rw [kindsF_2 h h3 h1]; decide
theorem good_fmt {most : Int} {m : Img} (h : GoodI most m) : YS m.c m.m := ⟨h.1, h.2.1⟩
theorem wrI_pos (m : Img) (k : Int) : 0 < (wrI m k).length := by
  unfold wrI hdW
  simp only [List.length_append, List.length_cons, List.length_nil]
  omega
theorem txs4 {B A0 : HP} {bB a55 a0 : Option Addr} {eB c55 c0 : Nat} {bs own1 tn : List Int} {ka : Nat} (h1 : RdsL [B] bB (Xm own1)) (hb1 : ∀ x ∈ own1, 0 ≤ x ∧ x ≤ 255) (hl1 : own1.length ≤ eB) (ho : own1.length ≤ 10000000) (ht : tn.length = own1.length) (hb2 : ∀ x ∈ tn, 0 ≤ x ∧ x ≤ 255) (hc55 : tn.length ≤ c55) (hA0 : RdsL [A0] a0 (Xm bs)) (hb0 : ∀ x ∈ bs, 0 ≤ x ∧ x ≤ 255) (hc0 : bs.length ≤ c0) (hka : ka ≤ own1.length) :
    ∀ t ∈ ([⟨a0, c0, bs.take 100⟩, ⟨bB, eB, own1⟩, ⟨a55, c55, tn⟩, ⟨bB, eB, own1.take ka⟩] : List TxL), TxOk (many [B, QU 5 1 a55 c55 tn.length (Xm tn), A0]) t := by
  have hm0 : Ent [many [B, QU 5 1 a55 c55 tn.length (Xm tn), A0]] [A0] := many_mem (by simp)
  have hm1 : RdsL [many [B, QU 5 1 a55 c55 tn.length (Xm tn), A0]] bB (Xm own1) := h1.ent (many_mem (by simp))
  have hm2 : RdsL [many [B, QU 5 1 a55 c55 tn.length (Xm tn), A0]] a55 (Xm tn) := QX.ent (many_mem (A := QU 5 1 a55 c55 tn.length (Xm tn)) (by simp))
  intro t ht2
  simp only [List.mem_cons, List.not_mem_nil, or_false] at ht2
  rcases ht2 with rfl | rfl | rfl | rfl
  · exact txs_take (hA0.ent hm0) hb0 hc0 100 (by omega)
  · exact ⟨hm1, hb1, hl1, by simp only; omega⟩
  · exact ⟨hm2, hb2, hc55, by simp only; omega⟩
  · exact txs_take hm1 hb1 hl1 ka (by omega)
theorem txs4_v {a0 bB a55 : Option Addr} {c0 eB c55 : Nat} {bs own1 tn : List Int} {ka : Nat} (hka : ka ≤ own1.length) (ht : tn.length = own1.length) : ([.slice a0 (min bs.length 100) c0, .slice bB own1.length eB, .slice a55 own1.length c55, .slice bB ka eB] : List Value) = ([⟨a0, c0, bs.take 100⟩, ⟨bB, eB, own1⟩, ⟨a55, c55, tn⟩, ⟨bB, eB, own1.take ka⟩] : List TxL).map txV := by
  simp only [List.map_cons, List.map_nil, txV]
  rw [show (bs.take 100).length = min bs.length 100 by rw [List.length_take, Nat.min_comm], ht, show (own1.take ka).length = ka by rw [List.length_take]; omega]
theorem WpL.ownMax {P : Program} {n : Cx} {D : List Deferred} {ops : Array Oper} {rest : List Oper} {Q : Post} {fr : Fr} {l : List HP} {T s c m : Nat} {a : Option Addr} {xs : List Value} (he : Ent l [QU T s a c m xs]) (k : m ≤ 9223372036854775807 → WpL P n D ops rest Q fr l) : WpL P n D ops rest Q fr l := fun A w U hh hs => by
  obtain ⟨S, hp, _⟩ := he w U hs
  exact k (own_max hp) A w U hh hs

theorem as10_spec (x : Img) (a : Option Addr) (c : Nat) : Fn Tryz.prog 41 #[.agg (mC x a c).toArray] [] (fun v l => v = .agg (mC x a c).toArray ∧ l = []) := by
 refine Ql (vs := [.agg (mC x a c).toArray]) Tryz.func41 rfl Tryz.ntmps41 rfl (Qb (Qa (Q1 rfl rfl rfl ?_)))
 intro g1
 refine XC rfl ?_
 intro g2
 refine WpL.nil (Qb (Qa (Qk (o2 := 0) rfl rfl rfl ?_)))
 refine Qv (vs := [_, _]) rfl rfl rfl (by rfl) ?_
 refine Qk (o2 := 2) rfl rfl rfl (Qk (o2 := 2) rfl rfl rfl (Qn rfl rfl (by rfl) ?_))
 refine Qk (o2 := 2) rfl rfl rfl (Qk (o2 := 3) rfl rfl rfl (Qn rfl rfl (by rfl) ?_))
 refine Qk (o2 := 2) rfl rfl rfl (Qk (o2 := 4) rfl rfl rfl (Qn rfl rfl (by rfl) ?_))
 refine Xr rfl rfl ?_
 refine Xr rfl rfl ?_
 refine QC rfl rfl rfl (by rfl) rfl ?_
 refine WpL.nil (Qg ?_)
 apply RetQ.mk
 ·exact (Xy rfl rfl (by rfl))
 ·exact ⟨rfl, rfl⟩
 ·exact Ent.nil _

end Go.Proofs.YtggamdlpiejbiaaGreat
namespace Go.Proofs.YtggamdlpiejbiaaGreat
open Go.RowKit Go.Shelf

set_option maxHeartbeats 4000000 in
theorem lParses_spec (A0 : HP) (a0 : Option Addr) (c0 : Nat) (bs : List Int) (hA0 : RdsL [A0] a0 (Xm bs)) (hb0 : ∀ x ∈ bs, 0 ≤ x ∧ x ≤ 255) (hc0 : bs.length ≤ c0) (hbl : bs.length ≤ 9223372036854775807) (a b d : Int) (g : GS) (hg1 : ∀ x ∈ g.zs, -9223372036854775808 ≤ x ∧ x < 9223372036854775808) (hg2 : g.zs.length ≤ 9223372036854775807) (hg3 : RdsL [A0] g.a (Q2 g.zs)) (hg4 : -9223372036854775808 ≤ g.mx ∧ g.mx < 9223372036854775808) (hg5 : -9223372036854775808 ≤ g.w ∧ g.w < 9223372036854775808) (hg6 : -9223372036854775808 ≤ g.h ∧ g.h < 9223372036854775808) (kd p cc : Int) (hkd : -9223372036854775808 ≤ kd ∧ kd < 9223372036854775808) (hp : -9223372036854775808 ≤ p ∧ p < 9223372036854775808) (hcc : 0 ≤ cc ∧ cc ≤ 255) : Fn Tryz.prog 8 #[.slice a0 bs.length c0, .agg #[.int .i64 a, .int .i64 b, .int .i64 d], .agg (gC g).toArray, .int .i64 kd, .int .i64 p, .int .u8 cc] [A0] (fun v l => v = .bool true ∧ l = [A0]) := by
 refine Ql (vs := [.slice a0 bs.length c0, .agg #[.int .i64 a, .int .i64 b, .int .i64 d], .agg (gC g).toArray, .int .i64 kd, .int .i64 p, .int .u8 cc]) Tryz.func8 rfl Tryz.ntmps8 rfl (Qb (Qa (Q1 rfl rfl rfl ?_)))
 intro gL
 refine Q1 rfl rfl rfl ?_
 intro gG
 refine Qd rfl rfl (WpL.nil (Qb (Qa ?_)))
 refine Qv (vs := [_, _, _, _, _]) rfl rfl rfl (by rfl) ?_
 refine Qi rfl rfl (by repeat' constructor) (rGood10_spec A0 g.three g.mx g.w g.h g.a g.c g.zs hg1 hg2 hg3 hg4 hg5 hg6 5 (by omega)) ?_
 rintro _ _ ⟨m, a1, c1, hgd, rfl, rfl⟩
 simp only [Qr]
 have hfm := good_fmt hgd
 have hkp := kinds_posF hfm
 have hkl := kinds_len (C := m.c) (M := m.m)
 have hab := YB (x := kd) (m := (Q5 m.c m.m).length) (by omega)
 have hix : (Q3 kd (Q5 m.c m.m).length).toNat < (Q5 m.c m.m).length := by omega
 have hkm := List.getElem_mem hix
 refine XC rfl ?_
 intro gI
 refine QC rfl rfl rfl (by rfl) rfl ?_
 refine WpL.nil (Qb (Qa (Qk (o2 := 0) rfl rfl rfl ?_)))
 refine Qv (vs := [_, _]) rfl rfl rfl (by rfl) ?_
 refine Qi rfl rfl (by repeat' constructor) (rKinds10_spec m.c m.m) ?_
 rintro _ _ ⟨aK, cK, rfl, rfl⟩
 simp only [Qr]
 refine Qd rfl rfl (WpL.nil (Qb ?_))
 apply Xa (fB := []) mixed [(8, false)] (by kernel_rfl)
 apply Q4 [⟨0, 34, _, [], false⟩, ⟨1, 35, _, [], false⟩, ⟨2, 36, _, [], false⟩, ⟨3, 37, _, [], false⟩, ⟨4, 38, _, [3], false⟩, ⟨5, 39, _, [2, 4], false⟩, ⟨6, 40, _, [1, 5], false⟩, ⟨7, 41, _, [6], false⟩] [] [0, 1, 2, 3, 4, 5, 6, 7] [33, 43, 44, 15, 16] (.inr rfl) rfl rfl rfl (by kernel_rfl) rfl rfl rfl
 ·refine AllF.cons rfl rfl rfl rfl ?_ ?_
  ·refine Qv (vs := [_, _, _, _, _]) rfl rfl rfl (by rfl) ?_
   exact Qm rfl
  refine AllF.cons rfl rfl rfl rfl ?_ ?_
  ·exact Qc rfl rfl (Qm rfl)
  refine AllF.cons rfl rfl rfl rfl ?_ ?_
  ·exact Qc rfl rfl (Qm rfl)
  refine AllF.cons rfl rfl rfl rfl ?_ ?_
  ·exact Qc rfl rfl (Qm rfl)
  refine AllF.cons rfl rfl rfl rfl ?_ ?_
  ·exact QP rfl rfl (WpL.nil ⟨rfl, rfl, rfl, by exact Ent.refl _⟩)
  refine AllF.cons rfl rfl rfl rfl ?_ ?_
  ·refine Qi rfl rfl (by repeat' constructor) (Yi _ _ (by omega) (by omega) (by omega)) ?_
   rintro _ _ ⟨rfl, rfl⟩
   simp only [Qr]
   exact WpL.nil ⟨rfl, rfl, rfl, by exact Ent.refl _⟩
  refine AllF.cons rfl rfl rfl rfl ?_ ?_
  ·refine Xd (Q3 kd (Q5 m.c m.m).length).toNat rfl rfl rfl (QX (T := 3) (s := 1) (a := aK) (c := cK) (m := (Q5 m.c m.m).length)) (by exact Take.ent' (by repeat' constructor)) (by omega) hix (by rw [Xe]; exact hix) ?_
   exact Qm rfl
  refine AllF.cons rfl rfl rfl rfl ?_ ?_
  ·refine Xh rfl rfl (QX (T := 3) (s := 1) (a := aK) (c := cK) (m := (Q5 m.c m.m).length)) (by exact Take.ent' (by repeat' constructor)) (Xw (Q5 m.c m.m) hix) ?_
   exact Qm rfl
  exact AllF.nil
 ·refine Qi rfl rfl (by repeat' constructor) (rWrite10c_spec (QU 92 1 a1 c1 m.px.length (XJ m.px)) m a1 c1 QX 5 (by omega) hgd _ hkm) ?_
  rintro _ _ ⟨B, bB, eB, hBr, hBl, rfl, rfl⟩
  simp only [Qr]
  have hwl := wrI_len (by omega) hgd hkm
  have hwb := wrI_byte (by omega) hgd hkm
  have hwp := wrI_pos m (Q5 m.c m.m)[(Q3 kd (Q5 m.c m.m).length).toNat]
  generalize wrI m (Q5 m.c m.m)[(Q3 kd (Q5 m.c m.m).length).toNat] = own1 at *
  have hap := YB (x := p) (m := own1.length) (by omega)
  obtain ⟨ka, hka⟩ := Int.eq_ofNat_of_zero_le hap.1
  have hkl2 : ka < own1.length := by omega
  refine WpL.nil ⟨rfl, rfl, ?_⟩
  apply GoR.nil [⟨9, 33, _, [8], false⟩, ⟨10, 43, _, [9], false⟩, ⟨11, 44, _, [9], false⟩, ⟨12, 15, _, [0, 1, 2, 3, 4, 5, 6, 7, 8, 9, 10], false⟩, ⟨13, 16, _, [0, 1, 2, 3, 4, 5, 6, 7, 8, 9, 10, 11, 12], false⟩] (.inr rfl) rfl rfl
  ·refine AllF.cons rfl rfl rfl rfl ?_ ?_
   ·exact Qc rfl rfl (Qm rfl)
   refine AllF.cons rfl rfl rfl rfl ?_ ?_
   ·exact QB rfl rfl rfl (Qm rfl)
   refine AllF.cons rfl rfl rfl rfl ?_ ?_
   ·exact QB rfl rfl rfl (Qm rfl)
   refine AllF.cons rfl rfl rfl rfl ?_ ?_
   ·exact Qd rfl rfl (Qm rfl)
   refine AllF.cons rfl rfl rfl rfl ?_ ?_
   ·exact Qd rfl rfl (Qm rfl)
   exact AllF.nil
  ·refine Xg (gr := [(0, _), (4, _), (5, _), (7, _), (12, _), (15, _)]) (FrLe.cons rfl (FrLe.cons rfl (FrLe.cons rfl (FrLe.cons rfl (FrLe.cons rfl (FrLe.cons rfl FrLe.nil)))))) ?_
   refine Qb (Qb (Qa (Qc rfl rfl (QP rfl rfl (QH rfl rfl rfl (WpL.nil (Qy rfl (by omega) ?_)))))))
   refine Wp.skip (Qb (Qa (Qc rfl rfl (Qc rfl rfl (QP rfl rfl (Qi rfl rfl (by repeat' constructor) (Yi _ _ (by omega) (by omega) (by omega)) ?_))))))
   rintro _ _ ⟨rfl, rfl⟩
   simp only [Qr]
   rw [hka]
   refine Qd rfl rfl (WpL.nil (Qb (Qa (Qd rfl rfl (WpL.nil (Qb (Qa (Qc rfl rfl (Qc rfl rfl (WpL.ent (Ent.own_nil (T := 5) (s := 1) (Ent.refl _)) ?_))))))))))
   refine s_appR (xs := []) (m2 := own1.length) rfl rfl rfl (by repeat' constructor) hBr (by exact Take.ent' (by repeat' constructor)) (by rw [Xc, Nat.mul_one]) (by rfl) (by rfl) (Zx _) (by omega) (by omega) ?_
   intro a55 c55
   rw [List.nil_append, Nat.zero_add]
   refine YN (by repeat' constructor) (fun hc55 => ?_)
   refine Qd rfl rfl (WpL.nil (Qb (Qa (Qc rfl rfl (Qc rfl rfl (Qc rfl rfl (Xd ka rfl rfl rfl (QX (T := 5) (s := 1) (a := a55) (c := c55) (m := own1.length)) (by exact Take.ent' (by repeat' constructor)) rfl hkl2 (by rw [Xc]; exact hkl2) ?_)))))))
   refine s_sto (a := a55) rfl rfl rfl (by repeat' constructor) (by rw [Xc]; exact hkl2) ?_
   rw [Vp]
   refine WpL.nil (Qb ?_)
   apply Xa (fB := []) mixed [(10, false)] (by kernel_rfl)
   apply Q4 [⟨0, 60, _, [], false⟩, ⟨1, 61, _, [], false⟩, ⟨2, 62, _, [1], false⟩, ⟨3, 63, _, [2], false⟩, ⟨4, 64, _, [0, 3], false⟩, ⟨5, 65, _, [], false⟩, ⟨6, 66, _, [], false⟩, ⟨7, 67, _, [], false⟩, ⟨8, 68, _, [], false⟩, ⟨9, 69, _, [7, 8], false⟩] [] [0, 1, 2, 3, 4, 5, 6, 7, 8, 9] [19] (.inr rfl) rfl rfl rfl (by kernel_rfl) rfl rfl rfl
   ·refine AllF.cons rfl rfl rfl rfl ?_ ?_
    ·exact Qc rfl rfl (Qm rfl)
    refine AllF.cons rfl rfl rfl rfl ?_ ?_
    ·exact Qc rfl rfl (Qm rfl)
    refine AllF.cons rfl rfl rfl rfl ?_ ?_
    ·exact QP rfl rfl (WpL.nil ⟨rfl, rfl, rfl, by exact Ent.refl _⟩)
    refine AllF.cons rfl rfl rfl rfl ?_ ?_
    ·exact s_min2 rfl rfl rfl (WpL.nil ⟨rfl, rfl, rfl, by exact Ent.refl _⟩)
    refine AllF.cons rfl rfl rfl rfl ?_ ?_
    ·refine s_sll_h (H := min bs.length 100) rfl rfl rfl (by omega) (by omega) ?_
     exact Qm rfl
    refine AllF.cons rfl rfl rfl rfl ?_ ?_
    ·exact Qc rfl rfl (Qm rfl)
    refine AllF.cons rfl rfl rfl rfl ?_ ?_
    ·exact Qc rfl rfl (Qm rfl)
    refine AllF.cons rfl rfl rfl rfl ?_ ?_
    ·exact Qc rfl rfl (Qm rfl)
    refine AllF.cons rfl rfl rfl rfl ?_ ?_
    ·exact Qc rfl rfl (Qm rfl)
    refine AllF.cons rfl rfl rfl rfl ?_ ?_
    ·refine s_sll_h (H := ka) rfl rfl rfl rfl (by omega) ?_
     exact Qm rfl
    exact AllF.nil
   ·refine s_bs4 rfl rfl rfl rfl rfl rfl rfl rfl rfl rfl ?_
    intro gT
    refine WpL.nil ⟨rfl, rfl, ?_⟩
    apply GoR.nil [⟨11, 19, _, [0, 1, 2, 3, 4, 5, 6, 7, 8, 9, 10], false⟩] (.inr rfl) rfl rfl
    ·refine AllF.cons rfl rfl rfl rfl ?_ ?_
     ·exact Qd rfl rfl (Qm rfl)
     exact AllF.nil
    ·refine Xg (gr := [(7, _), (12, _), (19, _)]) (FrLe.cons rfl (FrLe.cons rfl (FrLe.cons rfl FrLe.nil))) ?_
     refine Qb (Qb (Qa (Qd rfl rfl (WpL.nil (Wp.block ?_)))))
     have hsl : (own1.set ka cc).length = own1.length := List.length_set
     rw [txs4_v (tn := own1.set ka cc) (by omega) hsl]
     rw [← hsl]
     have htok := txs4 (B := B) (A0 := A0) (a55 := a55) (ka := ka) (tn := own1.set ka cc) (eB := eB) (c55 := c55) hBr hwb hBl (by omega) hsl (byte_set hwb hcc) (by omega) hA0 hb0 hc0 (by omega)
     have hB2 : Ent [many [B, QU 5 1 a55 c55 (own1.set ka cc).length (Xm (own1.set ka cc)), A0]] [A0] := many_mem (by simp)
     have hts4 : ([⟨a0, c0, bs.take 100⟩, ⟨bB, eB, own1⟩, ⟨a55, c55, own1.set ka cc⟩, ⟨bB, eB, own1.take ka⟩] : List TxL).length = 4 := rfl
     refine Wp.ent (m := [QJ gT (([⟨a0, c0, bs.take 100⟩, ⟨bB, eB, own1⟩, ⟨a55, c55, own1.set ka cc⟩, ⟨bB, eB, own1.take ka⟩] : List TxL).map txV) 22, many [B, QU 5 1 a55 c55 (own1.set ka cc).length (Xm (own1.set ka cc)), A0], QJ gL [.int .i64 a, .int .i64 b, .int .i64 d] 24]) (Ent.trans (Take.ent' (pre := [QJ gT (([⟨a0, c0, bs.take 100⟩, ⟨bB, eB, own1⟩, ⟨a55, c55, own1.set ka cc⟩, ⟨bB, eB, own1.take ka⟩] : List TxL).map txV) 22, B, QU 5 1 a55 c55 (own1.set ka cc).length (Xm (own1.set ka cc)), A0, QJ gL [.int .i64 a, .int .i64 b, .int .i64 d] 24]) (by repeat' constructor)) (Ent.cons (Ent.many (Ent.refl _)))) ?_
     generalize ([⟨a0, c0, bs.take 100⟩, ⟨bB, eB, own1⟩, ⟨a55, c55, own1.set ka cc⟩, ⟨bB, eB, own1.take ka⟩] : List TxL) = ts at *
     generalize many [B, QU 5 1 a55 c55 (own1.set ka cc).length (Xm (own1.set ka cc)), A0] = B2 at *
     refine Wp.loopD (σ := Nat) (fun i => i ≤ 4) [12, 20, 21, 22, 23, 24, 25, 26, 27, 71, 72, 73, 74, 75, 76, 77, 78, 79, 80, 81, 82, 83, 84, 85, 86, 87, 88, 89, 90, 91, 92, 93, 94, 95, 96, 97, 98, 99, 100, 101, 102, 103, 104, 105, 106, 107, 108, 109, 110, 111, 112, 113] (fun i => [(20, .int .i64 (i : Int))]) (fun i => [QJ gT (ts.map txV) 22, B2, QJ gL [.int .i64 a, .int .i64 b, .int .i64 d] 24]) (fun i => 4 - i) 0 ?_ (by repeat (first | exact FrLe.nil | refine FrLe.cons rfl ?_)) ?_ ?_
     ·exact Nat.zero_le _
     ·exact Ent.refl _
     ·rintro i hi
      refine Qb (Qb (Qa (Qc rfl rfl (Q7 rfl rfl rfl (WpL.nil (Qh rfl (fun h2 => ?_) (fun h2 => ?_)))))))
      ·have hit : i < ts.length := by omega
       obtain ⟨htA, htb, htc, htl⟩ := htok _ (List.getElem_mem hit)
       refine Wp.skip (Qb (Wp.block ?_))
       refine Qb (Qa (Qi rfl rfl (by repeat' constructor) (hdAll_spec) ?_))
       rintro _ _ ⟨rfl, rfl⟩
       simp only [Qr]
       obtain ⟨a', b', d', hl1, hl2⟩ := lim_ex ((i : Int) = 0) a b d 4096 65536 65535
       refine XC rfl ?_
       intro gB
       refine QC rfl rfl rfl (by rfl) rfl ?_
       refine WpL.nil ?_
       refine Wp.cutL (True) [76, 77, 78] [QJ gB [.int .i64 a', .int .i64 b', .int .i64 d'] 24, QJ gT (ts.map txV) 22, B2, QJ gL [.int .i64 a, .int .i64 b, .int .i64 d] 24] ?_ (fun hc3 => ?_)
       ·refine Qb (Qa (Qc rfl rfl (QH rfl rfl rfl (WpL.nil (Qh rfl (fun h3 => ?_) (fun h3 => ?_))))))
        ·obtain ⟨rfl, rfl, rfl⟩ := hl1 h3
         refine Qa ?_
         refine Qv (vs := [_, _, _]) rfl rfl rfl (by rfl) ?_
         refine QC rfl rfl rfl (by rfl) rfl ?_
         refine WpL.nil ?_
         refine Zi ?_ (by ((repeat (first | exact Top.refl | refine Top.push rfl ?_)); done)) (by exact Ent.refl _)
         trivial
        ·obtain ⟨rfl, rfl, rfl⟩ := hl2 h3
         refine Wp.skip ?_
         refine Zi ?_ (by ((repeat (first | exact Top.refl | refine Top.push rfl ?_)); done)) (by exact Ent.refl _)
         trivial
       ·refine Qb ?_
        apply Y1 (fB := []) mixed 10 [(5, false), (4, true)] rfl rfl (by kernel_rfl)
        apply Q4 [⟨0, 80, _, [], false⟩, ⟨1, 81, _, [], false⟩, ⟨2, 82, _, [0, 1], false⟩, ⟨3, 83, _, [2], false⟩, ⟨4, 84, _, [], false⟩] [] [0, 1, 2, 3, 4] [79, 86, 87, 88, 22, 23, 24] (.inr rfl) rfl rfl rfl (by kernel_rfl) rfl rfl rfl
        ·refine AllF.cons rfl rfl rfl rfl ?_ ?_
         ·exact Qc rfl rfl (Qm rfl)
         refine AllF.cons rfl rfl rfl rfl ?_ ?_
         ·exact Qc rfl rfl (Qm rfl)
         refine AllF.cons rfl rfl rfl rfl ?_ ?_
         ·refine Xd i rfl rfl rfl (rds_txs (ts := ts)) (by exact Take.ent' (by repeat' constructor)) (by omega) (by omega) (by rw [List.length_map]; exact hit) ?_
          exact Qm rfl
         refine AllF.cons rfl rfl rfl rfl ?_ ?_
         ·refine Xh rfl rfl (rds_txs (ts := ts)) (by exact Take.ent' (by repeat' constructor)) (txv_at ts hit) ?_
          exact Qm rfl
         refine AllF.cons rfl rfl rfl rfl ?_ ?_
         ·refine Qv (vs := [_, _, _]) rfl rfl rfl (by rfl) ?_
          exact Qm rfl
         exact AllF.nil
        ·refine Qi rfl rfl (by repeat' constructor) (iParse_spec B2 ts[i].a ts[i].c ts[i].bs htA htb htc (by omega) a' b' d') ?_
         rintro _ _ ⟨aR, cR, rfl, rfl⟩
         simp only [Qr]
         refine WpL.ownMax (T := 92) (s := 1) (a := aR) (c := cR) (Take.ent' (by repeat' constructor)) (fun hmx => ?_)
         refine WpL.nil ⟨rfl, rfl, ?_⟩
         apply Zk [⟨6, 79, _, [5], false⟩, ⟨7, 86, _, [6], false⟩, ⟨8, 87, _, [6], true⟩, ⟨9, 88, _, [6], true⟩] [] [6, 7] [23, 24, 87, 88] (.inl ⟨_, .nil⟩) rfl rfl rfl (by kernel_rfl) rfl rfl rfl rfl
         ·refine AllF.cons rfl rfl rfl rfl ?_ ?_
          ·exact Qc rfl rfl (Qm rfl)
          refine AllF.cons rfl rfl rfl rfl ?_ ?_
          ·exact QB rfl rfl rfl (Qm rfl)
          refine QE rfl rfl rfl rfl ?_ ?_
          ·exact QB rfl rfl rfl (Qm rfl)
          refine QE rfl rfl rfl rfl ?_ ?_
          ·exact QB rfl rfl rfl (Qm rfl)
          exact AllF.nil
         ·intro gP
          refine QC rfl rfl rfl (by rfl) rfl ?_
          refine WpL.nil ⟨rfl, rfl, ?_⟩
          apply GoR.nil [⟨12, 23, _, [0, 1, 2, 3, 4, 5, 6, 7, 8, 10, 11], false⟩, ⟨13, 24, _, [0, 1, 2, 3, 4, 5, 6, 7, 8, 9, 10, 11, 12], false⟩] (.inl ⟨_, .nil⟩) rfl rfl
          ·refine AllF.cons rfl rfl rfl rfl ?_ ?_
           ·exact Qd rfl rfl (Qm rfl)
           refine AllF.cons rfl rfl rfl rfl ?_ ?_
           ·exact Qd rfl rfl (Qm rfl)
           exact AllF.nil
          ·refine Xg (gr := [(7, _), (19, _), (20, _), (21, _), (22, _), (23, _), (24, _)]) (FrLe.cons rfl (FrLe.cons rfl (FrLe.cons rfl (FrLe.cons rfl (FrLe.cons rfl (FrLe.cons rfl (FrLe.cons rfl FrLe.nil))))))) ?_
           refine Qb ?_
           apply Y1 (fB := []) mixed 10 [(5, false), (4, true)] rfl rfl (by kernel_rfl)
           apply Q4 [⟨0, 90, _, [], false⟩, ⟨1, 91, _, [], false⟩, ⟨2, 92, _, [0, 1], false⟩, ⟨3, 93, _, [2], false⟩, ⟨4, 94, _, [], false⟩] [] [0, 1, 2, 3, 4] [89, 96, 97, 98, 25, 26, 27] (.inr rfl) rfl rfl rfl (by kernel_rfl) rfl rfl rfl
           ·refine AllF.cons rfl rfl rfl rfl ?_ ?_
            ·exact Qc rfl rfl (Qm rfl)
            refine AllF.cons rfl rfl rfl rfl ?_ ?_
            ·exact Qc rfl rfl (Qm rfl)
            refine AllF.cons rfl rfl rfl rfl ?_ ?_
            ·refine Xd i rfl rfl rfl (rds_txs (ts := ts)) (by exact Take.ent' (by repeat' constructor)) (by omega) (by omega) (by rw [List.length_map]; exact hit) ?_
             exact Qm rfl
            refine AllF.cons rfl rfl rfl rfl ?_ ?_
            ·refine Xh rfl rfl (rds_txs (ts := ts)) (by exact Take.ent' (by repeat' constructor)) (txv_at ts hit) ?_
             exact Qm rfl
            refine AllF.cons rfl rfl rfl rfl ?_ ?_
            ·refine Qv (vs := [_, _, _]) rfl rfl rfl (by rfl) ?_
             exact Qm rfl
            exact AllF.nil
           ·refine Qi rfl rfl (by repeat' constructor) (rParse10_spec B2 ts[i].a ts[i].c ts[i].bs htA htb htc (by omega) a' b' d') ?_
            rintro _ _ ⟨aR2, cR2, rfl, rfl⟩
            simp only [Qr]
            refine WpL.nil ⟨rfl, rfl, ?_⟩
            apply Zk [⟨6, 89, _, [5], false⟩, ⟨7, 96, _, [6], false⟩, ⟨8, 97, _, [6], true⟩, ⟨9, 98, _, [6], true⟩] [] [6, 7] [26, 27, 97, 98] (.inl ⟨_, .nil⟩) rfl rfl rfl (by kernel_rfl) rfl rfl rfl rfl
            ·refine AllF.cons rfl rfl rfl rfl ?_ ?_
             ·exact Qc rfl rfl (Qm rfl)
             refine AllF.cons rfl rfl rfl rfl ?_ ?_
             ·exact QB rfl rfl rfl (Qm rfl)
             refine QE rfl rfl rfl rfl ?_ ?_
             ·exact QB rfl rfl rfl (Qm rfl)
             refine QE rfl rfl rfl rfl ?_ ?_
             ·exact QB rfl rfl rfl (Qm rfl)
             exact AllF.nil
            ·intro gQ
             refine QC rfl rfl rfl (by rfl) rfl ?_
             refine WpL.nil ⟨rfl, rfl, ?_⟩
             apply GoR.nil [⟨12, 26, _, [0, 1, 2, 3, 4, 5, 6, 7, 8, 10, 11], false⟩, ⟨13, 27, _, [0, 1, 2, 3, 4, 5, 6, 7, 8, 9, 10, 11, 12], false⟩] (.inl ⟨_, .nil⟩) rfl rfl
             ·refine AllF.cons rfl rfl rfl rfl ?_ ?_
              ·exact Qd rfl rfl (Qm rfl)
              refine AllF.cons rfl rfl rfl rfl ?_ ?_
              ·exact Qd rfl rfl (Qm rfl)
              exact AllF.nil
             ·refine Xg (gr := [(7, _), (19, _), (20, _), (22, _), (23, _), (24, _), (25, _), (26, _), (27, _)]) (FrLe.cons rfl (FrLe.cons rfl (FrLe.cons rfl (FrLe.cons rfl (FrLe.cons rfl (FrLe.cons rfl (FrLe.cons rfl (FrLe.cons rfl (FrLe.cons rfl FrLe.nil))))))))) ?_
              refine Qb ?_
              apply Q9 mixed [⟨99, _, []⟩, ⟨100, _, []⟩, ⟨101, _, [0, 1]⟩, ⟨102, _, [2]⟩, ⟨103, _, [3]⟩, ⟨104, _, [3]⟩, ⟨105, _, [4, 5, 3]⟩, ⟨106, _, [3, 6]⟩, ⟨107, _, [7, 3]⟩, ⟨108, _, [8]⟩, ⟨109, _, [9, 8]⟩, ⟨110, _, [8]⟩, ⟨111, _, [10, 11, 8]⟩, ⟨112, _, [12, 8]⟩, ⟨113, _, [8, 13]⟩] rfl
              ·refine AllObs.mk ?_ ?_
               ·exact Qc rfl rfl (Qm rfl)
               refine AllObs.mk ?_ ?_
               ·exact Qc rfl rfl (Qm rfl)
               refine AllObs.mk ?_ ?_
               ·exact Xn rfl rfl rfl (Qm rfl)
               refine AllObs.mk ?_ ?_
               ·exact Qc rfl rfl (Qm rfl)
               refine AllObs.mk ?_ ?_
               ·refine Qx (dj := 102) rfl (decide_eq_false (fun h => h rfl)) ?_
                exact Qf rfl rfl (Qc rfl rfl (Qm rfl))
               refine AllObs.mk ?_ ?_
               ·refine Qx (dj := 102) rfl (decide_eq_false (fun h => h rfl)) ?_
                exact Qf rfl rfl (Qc rfl rfl (Qm rfl))
               refine AllObs.mk ?_ ?_
               ·refine Qx (dj := 102) rfl (decide_eq_false (fun h => h rfl)) ?_
                exact Qf rfl rfl (Xn rfl rfl rfl (Qm rfl))
               refine AllObs.mk ?_ ?_
               ·refine Qx (dj := 102) rfl (decide_eq_false (fun h => h rfl)) ?_
                exact Qu rfl rfl rfl (Qm rfl)
               refine AllObs.mk ?_ ?_
               ·exact Qc rfl rfl (Qm rfl)
               refine AllObs.mk ?_ ?_
               ·refine Qx (dj := 107) rfl (decide_eq_false (fun h => h rfl)) ?_
                refine Qf rfl rfl ?_
                refine Qv (vs := [_, _, _, _, _]) rfl rfl rfl (by rfl) ?_
                exact Qm rfl
               refine AllObs.mk ?_ ?_
               ·refine Qx (dj := 107) rfl (decide_eq_false (fun h => h rfl)) ?_
                refine Qf rfl rfl (Qi rfl rfl (by repeat' constructor) (as10_spec (X7 (QR a') (QS b') (QT d') ts[i].bs).1 aR cR) ?_)
                rintro _ _ ⟨rfl, rfl⟩
                simp only [Qr]
                exact WpL.nil ⟨rfl, rfl, rfl, by exact Ent.refl _⟩
               refine AllObs.mk ?_ ?_
               ·refine Qx (dj := 107) rfl (decide_eq_false (fun h => h rfl)) ?_
                refine Qf rfl rfl ?_
                refine Qv (vs := [_, _, _, _, _]) rfl rfl rfl (by rfl) ?_
                exact Qm rfl
               refine AllObs.mk ?_ ?_
               ·refine Qx (dj := 107) rfl (decide_eq_false (fun h => h rfl)) ?_
                refine Qf rfl rfl (Qi rfl rfl (by repeat' constructor) (Same10_true [QU 92 1 aR cR (X7 (QR a') (QS b') (QT d') ts[i].bs).1.px.length (XJ (X7 (QR a') (QS b') (QT d') ts[i].bs).1.px), QU 92 1 aR2 cR2 (X7 (QR a') (QS b') (QT d') ts[i].bs).1.px.length (XJ (X7 (QR a') (QS b') (QT d') ts[i].bs).1.px)] (X7 (QR a') (QS b') (QT d') ts[i].bs).1 aR aR2 cR cR2 QX.head QX.tail hmx) ?_)
                rintro _ _ ⟨rfl, rfl⟩
                simp only [Qr]
                exact WpL.nil ⟨rfl, rfl, rfl, by exact Take.ent' (by repeat' constructor)⟩
               refine AllObs.mk ?_ ?_
               ·refine Qx (dj := 107) rfl (decide_eq_false (fun h => h rfl)) ?_
                exact Qf rfl rfl (Zo rfl rfl (Qm rfl))
               refine AllObs.mk ?_ ?_
               ·refine Qx (dj := 107) rfl (decide_eq_false (fun h => h rfl)) ?_
                exact Qu rfl rfl rfl (Qm rfl)
               exact AllObs.nil
              ·refine QZ rfl (Wp.skip (Qa (Qc rfl rfl (QA rfl rfl rfl (Qo (by omega) (by omega)) ?_))))
               refine Qd rfl rfl (WpL.nil (Qp (i + 1) ?_ ?_ (by exact Top.le (by repeat (first | exact FrLe.nil | refine FrLe.cons rfl ?_))) (by repeat (first | exact FrLe.nil | refine FrLe.cons rfl ?_)) ?_))
               ·omega
               ·omega
               ·exact Take.ent' (by repeat' constructor)
      ·refine QO (Qb (Qa (Qi rfl rfl (by repeat' constructor) (lives10_spec) ?_)))
       rintro _ _ ⟨rfl, rfl⟩
       simp only [Qr]
       refine Qd rfl rfl (WpL.nil (Qg ?_))
       apply RetQ.mk
       ·exact (Res.one rfl rfl)
       ·exact ⟨rfl, rfl⟩
       ·exact Ent.trans (Take.ent' (pre := [B2]) (by repeat' constructor)) hB2

end Go.Proofs.YtggamdlpiejbiaaGreat
