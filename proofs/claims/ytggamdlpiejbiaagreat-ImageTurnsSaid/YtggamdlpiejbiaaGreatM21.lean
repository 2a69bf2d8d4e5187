/- Walks and plain laws, a part of the proof of ImageTurns: every input that the law's guards let in, no condition beside. -/
import Derived.Test.YtggamdlpiejbiaaGreatM20
namespace Go.Proofs.YtggamdlpiejbiaaGreat
open Go.RowKit Go.Shelf


theorem hParse_alt (a b d : Int) (bs : List Int) (hbs : ∀ x ∈ bs, 0 ≤ x ∧ x ≤ 255) (hl : bs.length ≤ 1000000000) {K W H M n e : Int} (hP : XV (Xv a) (Xw b) (Xx d) bs = ((K, W, H, M), n, e)) : Fn Tryz.prog 74 #[.string (strOfNums bs), .agg #[.int .i64 a, .int .i64 b, .int .i64 d]] [] (fun v l => (e = 0 ∧ v = .tuple #[.agg #[.int .i64 K, .int .i64 W, .int .i64 H, .int .i64 M], .int .i64 n, .int .i64 0] ∧ l = []) ∨ (e ≠ 0 ∧ v = .tuple #[.agg #[.int .i64 0, .int .i64 0, .int .i64 0, .int .i64 0], .int .i64 0, .int .i64 e] ∧ l = [])) := by
  refine (hParse_spec a b d (strOfNums bs) (by rw [YZ]; omega)).mono ?_
  rintro v l ⟨rfl, rfl⟩
  rw [Zr hbs, hP]
  by_cases he : e = 0
  · exact ⟨_, .inl ⟨he, if_pos he, rfl⟩, Ent.refl _⟩
  · exact ⟨_, .inr ⟨he, if_neg he, rfl⟩, Ent.refl _⟩
set_option maxHeartbeats 1000000 in
theorem iParse_spec (A0 : HP) (a0 : Option Addr) (c0 : Nat) (bs : List Int) (hA : RdsL [A0] a0 (Xn bs)) (hbs : ∀ x ∈ bs, 0 ≤ x ∧ x ≤ 255) (hc0 : bs.length ≤ c0) (hbl : bs.length ≤ 1000000000) (a b d : Int) : Fn Tryz.prog 38 #[.slice a0 bs.length c0, .agg #[.int .i64 a, .int .i64 b, .int .i64 d]] [A0] (fun v l => ∃ aR cR, v = .tuple #[.agg #[.int .i64 (YF (Xv a) (Xw b) (Xx d) bs).1.c, .int .i64 (YF (Xv a) (Xw b) (Xx d) bs).1.m, .int .i64 (YF (Xv a) (Xw b) (Xx d) bs).1.w, .int .i64 (YF (Xv a) (Xw b) (Xx d) bs).1.h, .slice aR (YF (Xv a) (Xw b) (Xx d) bs).1.px.length cR], .int .i64 (YF (Xv a) (Xw b) (Xx d) bs).2.1, .int .i64 (YF (Xv a) (Xw b) (Xx d) bs).2.2] ∧ l = [QG 92 1 aR cR (YF (Xv a) (Xw b) (Xx d) bs).1.px.length (Q5 (YF (Xv a) (Xw b) (Xx d) bs).1.px), A0]) := by
 obtain ⟨⟨⟨K, W, H, M⟩, n, e⟩, hPd⟩ : ∃ P, XV (Xv a) (Xw b) (Xx d) bs = P := ⟨_, rfl⟩
 have hok := hdP_ok (Xv a) (Xw b) (Xx d) (lim_o a b d) bs
 rw [hPd] at hok
 dsimp only at hok
 obtain ⟨nn, rfl⟩ := Int.eq_ofNat_of_zero_le hok.2.1
 have hnl : nn ≤ bs.length := by omega
 have hAy : RdsL [A0] (sla a0 nn c0 1) (Xn (bs.drop nn)) := by have q := hA.sla nn bs.length c0 1 hc0; rwa [u8s_from] at q
 have hbd : ∀ x ∈ bs.drop nn, 0 ≤ x ∧ x ≤ 255 := fun x hx => hbs x (List.mem_of_mem_drop hx)
 have hdl : (bs.drop nn).length = bs.length - nn := List.length_drop
 refine Qk (vs := [.slice a0 bs.length c0, .agg #[.int .i64 a, .int .i64 b, .int .i64 d]]) Tryz.func38 rfl Tryz.ntmps38 rfl (Qb (Qa (QP rfl rfl rfl ?_)))
 intro gB
 refine XK rfl ?_
 intro gM
 refine Qe rfl rfl (Qe rfl rfl (WpL.nil (Qb (Qa (Qd rfl rfl (s_b2sR rfl Tryz.underlying22 Tryz.underlying5 Tryz.underlying9 rfl hA (by exact Take.ent' (by repeat' constructor)) rfl ?_))))))
 refine Qz (vs := [_, _, _]) rfl rfl rfl (by rfl) ?_
 refine Qg rfl rfl (by repeat' constructor) (hParse_alt a b d bs hbs hbl hPd) ?_
 intro v0 m0 hN0
 rcases hN0 with ⟨hE, rfl, rfl⟩ | ⟨hE, rfl, rfl⟩
 ·simp only [Qr]
  subst hE
  have hMay := hok.1 rfl
  have hM2 := hMay
  unfold X6 at hM2
  obtain ⟨Wn, rfl⟩ := Int.eq_ofNat_of_zero_le (show 0 ≤ W by omega)
  obtain ⟨Hn, rfl⟩ := Int.eq_ofNat_of_zero_le (show 0 ≤ H by omega)
  have hsb := XZ (K := K) (W := Wn) (Q4 M) (by omega) (by omega)
  have hsz : QD K Wn (Qi M) * Hn ≤ 24576 * 65536 := Nat.mul_le_mul hsb.2 (by omega)
  refine Qd rfl rfl (QC rfl rfl rfl (QC rfl rfl rfl (QC rfl rfl rfl (XK rfl ?_))))
  intro gH
  refine QY rfl rfl rfl (by rfl) rfl ?_
  refine Qe rfl rfl (Qe rfl rfl (WpL.nil (Qb (Qb (Qa (Qd rfl rfl (Xj rfl rfl rfl (WpL.nil (QA rfl (fun h => h rfl) ?_)))))))))
  refine Wp.skip (Qb (Qa (Qe rfl rfl (WpL.nil (Qb (Qa ?_))))))
  refine Qz (vs := [_, _, _, _]) rfl rfl rfl (by rfl) ?_
  refine Qg rfl rfl (by repeat' constructor) (SizeA_spec K Wn Hn M hMay) ?_
  rintro _ _ ⟨rfl, rfl⟩
  simp only [Qr]
  refine Qe rfl rfl (WpL.nil (Qb (Qb (Qa ?_))))
  refine Qz (vs := [_, _, _, _]) rfl rfl rfl (by rfl) ?_
  refine Qg rfl rfl (by repeat' constructor) (Y0 _ _ _ _) ?_
  rintro _ _ ⟨rfl, rfl⟩
  simp only [Qr]
  refine WpL.nil (Qm rfl (fun h1 => ?_) (fun h1 => ?_))
  ·rw [if_pos (show 4 ≤ K by omega)]
   apply Xe (fB := []) mixed [(4, false)] (by kernel_rfl)
   apply Q9 [⟨0, 29, _, [], false⟩, ⟨1, 30, _, [], false⟩, ⟨2, 31, _, [0, 1], false⟩, ⟨3, 32, _, [], false⟩] [] [0, 1, 2, 3] [28, 34, 35, 10, 9] (.inr rfl) rfl rfl rfl (by kernel_rfl) rfl rfl rfl
   ·refine AllF.cons rfl rfl rfl rfl ?_ ?_
    ·exact Qd rfl rfl (Ql rfl)
    refine AllF.cons rfl rfl rfl rfl ?_ ?_
    ·exact Qd rfl rfl (Ql rfl)
    refine AllF.cons rfl rfl rfl rfl ?_ ?_
    ·refine s_sll_l (L := nn) rfl rfl rfl (by omega) (by omega) ?_
     rw [show bs.length - nn = (bs.drop nn).length from List.length_drop.symm]
     exact Ql rfl
    refine AllF.cons rfl rfl rfl rfl ?_ ?_
    ·refine Qz (vs := [_, _, _, _]) rfl rfl rfl (by rfl) ?_
     exact Ql rfl
    exact AllF.nil
   ·refine Qg rfl rfl (by repeat' constructor) (RawRead_spec A0 (sla a0 nn c0 1) (c0 - nn) (bs.drop nn) hAy hbd (by omega) K Wn (Hn : Int) M ⟨hMay, by omega⟩) ?_
    rintro _ _ ⟨b0, out, er, a3, c3, hb0, hrd, rfl, rfl⟩
    simp only [Qr]
    have hrf : rawF K Wn Hn M (bs.drop nn) = (out, er) := by
     have q := readW_raw (h := ⟨K, (Wn : Int), (Hn : Int), M, 0, 0, tk0, 1, 0⟩) ⟨rfl, rfl, hMay⟩ (bs.drop nn) b0 (by simpa using hb0) (by rw [hb0]; omega)
     simp only [Int.toNat_natCast] at q
     rw [← q, ← hrd]
    refine WpL.nil ⟨rfl, rfl, ?_⟩
    apply GoR.nil [⟨5, 28, _, [4], false⟩, ⟨6, 34, _, [5], false⟩, ⟨7, 35, _, [5], false⟩, ⟨8, 10, _, [0, 1, 2, 3, 4, 5, 6], false⟩, ⟨9, 9, _, [0, 1, 2, 3, 4, 5, 6, 7, 8], false⟩] (.inr rfl) rfl rfl
    ·refine AllF.cons rfl rfl rfl rfl ?_ ?_
     ·exact Qd rfl rfl (Ql rfl)
     refine AllF.cons rfl rfl rfl rfl ?_ ?_
     ·exact QC rfl rfl rfl (Ql rfl)
     refine AllF.cons rfl rfl rfl rfl ?_ ?_
     ·exact QC rfl rfl rfl (Ql rfl)
     refine AllF.cons rfl rfl rfl rfl ?_ ?_
     ·exact Qe rfl rfl (Ql rfl)
     refine AllF.cons rfl rfl rfl rfl ?_ ?_
     ·exact Qe rfl rfl (Ql rfl)
     exact AllF.nil
    ·refine Qb (Qb (Qa (Qd rfl rfl (Xj rfl rfl rfl (WpL.nil (Qm rfl (fun h2 => ?_) (fun h2 => ?_)))))))
     ·refine Qb (Qa ?_)
      refine XN rfl rfl ?_
      refine Qd rfl rfl ?_
      refine QY rfl rfl rfl (by rfl) rfl ?_
      refine Qe rfl rfl (Qe rfl rfl (WpL.nil (Qh ?_)))
      apply RetQ.mk
      ·exact (X2 rfl rfl (by rfl) rfl rfl)
      ·exact ⟨none, 0, by rw [parF_re hPd (by omega) (by simpa using hrf) (by assumption)]; rfl, rfl⟩
      ·rw [parF_re hPd (by omega) (by simpa using hrf) (by assumption)]
       exact Ent.own_nil (Take.ent' (by repeat' constructor))
     ·obtain rfl : er = 0 := Classical.not_not.1 h2
      refine Wp.skip (Qb ?_)
      apply Xe (fB := []) mixed [(12, false)] (by kernel_rfl)
      apply Q9 [⟨0, 50, _, [], false⟩, ⟨1, 51, _, [0], false⟩, ⟨2, 52, _, [], false⟩, ⟨3, 53, _, [2], false⟩, ⟨4, 54, _, [], false⟩, ⟨5, 55, _, [4], false⟩, ⟨6, 56, _, [], false⟩, ⟨7, 57, _, [3, 5, 6], false⟩, ⟨8, 58, _, [1, 7], false⟩, ⟨9, 59, _, [], true⟩, ⟨10, 60, _, [], true⟩, ⟨11, 61, _, [9, 10], true⟩] [] [0, 1, 2, 3, 4, 5, 6, 7, 8] [5, 6, 59, 60, 61] (.inl ⟨_, .nil⟩) rfl rfl rfl (by kernel_rfl) rfl rfl rfl
      ·refine AllF.cons rfl rfl rfl rfl ?_ ?_
       ·refine Qz (vs := [_, _, _, _]) rfl rfl rfl (by rfl) ?_
        exact Ql rfl
       refine AllF.cons rfl rfl rfl rfl ?_ ?_
       ·refine Qg rfl rfl (by repeat' constructor) (Xo _ _ _ _ (by omega)) ?_
        rintro _ _ ⟨rfl, rfl⟩
        simp only [Qr]
        exact WpL.nil ⟨rfl, rfl, rfl, by exact Ent.refl _⟩
       refine AllF.cons rfl rfl rfl rfl ?_ ?_
       ·exact Qj (o2 := 1) rfl rfl rfl (Ql rfl)
       refine AllF.cons rfl rfl rfl rfl ?_ ?_
       ·refine Qo rfl rfl (by rfl) ?_
        exact Ql rfl
       refine AllF.cons rfl rfl rfl rfl ?_ ?_
       ·exact Qj (o2 := 2) rfl rfl rfl (Ql rfl)
       refine AllF.cons rfl rfl rfl rfl ?_ ?_
       ·refine Qo rfl rfl (by rfl) ?_
        exact Ql rfl
       refine AllF.cons rfl rfl rfl rfl ?_ ?_
       ·exact Qd rfl rfl (Ql rfl)
       refine AllF.cons rfl rfl rfl rfl ?_ ?_
       ·refine XN rfl rfl ?_
        exact Ql rfl
       refine AllF.cons rfl rfl rfl rfl ?_ ?_
       ·refine XN rfl rfl ?_
        exact Ql rfl
       refine Xc rfl rfl rfl rfl ?_ ?_
       ·exact Qd rfl rfl (Ql rfl)
       refine Xc rfl rfl rfl rfl ?_ ?_
       ·exact Qd rfl rfl (Ql rfl)
       refine Xc rfl rfl rfl rfl ?_ ?_
       ·refine QE rfl rfl rfl (Qt (by omega) (by omega)) ?_
        exact Ql rfl
       exact AllF.nil
      ·refine QY rfl rfl rfl (by rfl) rfl ?_
       refine WpL.nil ⟨rfl, rfl, ?_⟩
       apply GoR.nil [⟨13, 5, _, [0, 1, 2, 3, 4, 5, 6, 7, 8, 9, 10, 11, 12], false⟩, ⟨14, 6, _, [0, 1, 2, 3, 4, 5, 6, 7, 8, 9, 10, 11, 12, 13], false⟩] (.inl ⟨_, .nil⟩) rfl rfl
       ·refine AllF.cons rfl rfl rfl rfl ?_ ?_
        ·exact Qe rfl rfl (Ql rfl)
        refine AllF.cons rfl rfl rfl rfl ?_ ?_
        ·exact Qe rfl rfl (Ql rfl)
        exact AllF.nil
       ·refine Qh ?_
        apply RetQ.mk
        ·exact (X2 rfl rfl (by rfl) rfl rfl)
        ·exact ⟨a3, c3, by rw [parF_r (out := out) hPd (by omega) (by simpa using hrf)]; try rfl, rfl⟩
        ·rw [parF_r (out := out) hPd (by omega) (by simpa using hrf)]
         exact Take.ent' (by repeat' constructor)
  ·apply Xe (fB := []) mixed [(5, false)] (by kernel_rfl)
   apply Q9 [⟨0, 37, _, [], false⟩, ⟨1, 38, _, [], false⟩, ⟨2, 39, _, [0, 1], false⟩, ⟨3, 40, _, [2], false⟩, ⟨4, 41, _, [], false⟩] [] [0, 1, 2, 3, 4] [36, 43, 44, 45, 10, 11, 9] (.inr rfl) rfl rfl rfl (by kernel_rfl) rfl rfl rfl
   ·refine AllF.cons rfl rfl rfl rfl ?_ ?_
    ·exact Qd rfl rfl (Ql rfl)
    refine AllF.cons rfl rfl rfl rfl ?_ ?_
    ·exact Qd rfl rfl (Ql rfl)
    refine AllF.cons rfl rfl rfl rfl ?_ ?_
    ·refine s_sll_l (L := nn) rfl rfl rfl (by omega) (by omega) ?_
     rw [show bs.length - nn = (bs.drop nn).length from List.length_drop.symm]
     exact Ql rfl
    refine AllF.cons rfl rfl rfl rfl ?_ ?_
    ·refine s_b2sR rfl Tryz.underlying22 Tryz.underlying5 Tryz.underlying9 rfl hAy (by exact Take.ent' (by repeat' constructor)) rfl ?_
     exact Ql rfl
    refine AllF.cons rfl rfl rfl rfl ?_ ?_
    ·refine Qz (vs := [_, _, _, _]) rfl rfl rfl (by rfl) ?_
     exact Ql rfl
    exact AllF.nil
   ·refine Qg rfl rfl (by repeat' constructor) (Read_spec (strOfNums (bs.drop nn)) (by rw [YZ]; omega) K (Wn : Int) (Hn : Int) M) ?_
    rintro _ _ ⟨out, i, x, a3, c3, hrd, rfl, rfl⟩
    simp only [Qr]
    rw [Zr hbd] at hrd
    have hib := readS_i (K := K) (W := (Wn : Int)) (H := (Hn : Int)) (M := M) (bs.drop nn)
    rw [← hrd] at hib
    dsimp only at hib
    refine WpL.nil ⟨rfl, rfl, ?_⟩
    apply GoR.nil [⟨6, 36, _, [5], false⟩, ⟨7, 43, _, [6], false⟩, ⟨8, 44, _, [6], false⟩, ⟨9, 45, _, [6], false⟩, ⟨10, 10, _, [0, 1, 2, 3, 4, 5, 6, 7], false⟩, ⟨11, 11, _, [0, 1, 2, 3, 4, 5, 6, 7, 8, 10], false⟩, ⟨12, 9, _, [0, 1, 2, 3, 4, 5, 6, 7, 8, 9, 10, 11], false⟩] (.inr rfl) rfl rfl
    ·refine AllF.cons rfl rfl rfl rfl ?_ ?_
     ·exact Qd rfl rfl (Ql rfl)
     refine AllF.cons rfl rfl rfl rfl ?_ ?_
     ·exact QC rfl rfl rfl (Ql rfl)
     refine AllF.cons rfl rfl rfl rfl ?_ ?_
     ·exact QC rfl rfl rfl (Ql rfl)
     refine AllF.cons rfl rfl rfl rfl ?_ ?_
     ·exact QC rfl rfl rfl (Ql rfl)
     refine AllF.cons rfl rfl rfl rfl ?_ ?_
     ·exact Qe rfl rfl (Ql rfl)
     refine AllF.cons rfl rfl rfl rfl ?_ ?_
     ·exact Qe rfl rfl (Ql rfl)
     refine AllF.cons rfl rfl rfl rfl ?_ ?_
     ·exact Qe rfl rfl (Ql rfl)
     exact AllF.nil
    ·refine Qb (Qb (Qa (Qd rfl rfl (Xj rfl rfl rfl (WpL.nil (Qm rfl (fun h2 => ?_) (fun h2 => ?_)))))))
     ·refine Qb (Qa ?_)
      refine XN rfl rfl ?_
      refine Qd rfl rfl ?_
      refine QY rfl rfl rfl (by rfl) rfl ?_
      refine Qe rfl rfl (Qe rfl rfl (WpL.nil (Qh ?_)))
      apply RetQ.mk
      ·exact (X2 rfl rfl (by rfl) rfl rfl)
      ·exact ⟨none, 0, by rw [parF_pe hPd (by omega) (by simpa using hrd.symm) (by assumption)]; rfl, rfl⟩
      ·rw [parF_pe hPd (by omega) (by simpa using hrd.symm) (by assumption)]
       exact Ent.own_nil (Take.ent' (by repeat' constructor))
     ·obtain rfl : x = 0 := Classical.not_not.1 h2
      refine Wp.skip (Qb ?_)
      apply Xe (fB := []) mixed [(12, false)] (by kernel_rfl)
      apply Q9 [⟨0, 50, _, [], false⟩, ⟨1, 51, _, [0], false⟩, ⟨2, 52, _, [], false⟩, ⟨3, 53, _, [2], false⟩, ⟨4, 54, _, [], false⟩, ⟨5, 55, _, [4], false⟩, ⟨6, 56, _, [], false⟩, ⟨7, 57, _, [3, 5, 6], false⟩, ⟨8, 58, _, [1, 7], false⟩, ⟨9, 59, _, [], true⟩, ⟨10, 60, _, [], true⟩, ⟨11, 61, _, [9, 10], true⟩] [] [0, 1, 2, 3, 4, 5, 6, 7, 8] [5, 6, 59, 60, 61] (.inl ⟨_, .nil⟩) rfl rfl rfl (by kernel_rfl) rfl rfl rfl
      ·refine AllF.cons rfl rfl rfl rfl ?_ ?_
       ·refine Qz (vs := [_, _, _, _]) rfl rfl rfl (by rfl) ?_
        exact Ql rfl
       refine AllF.cons rfl rfl rfl rfl ?_ ?_
       ·refine Qg rfl rfl (by repeat' constructor) (Xo _ _ _ _ (by omega)) ?_
        rintro _ _ ⟨rfl, rfl⟩
        simp only [Qr]
        exact WpL.nil ⟨rfl, rfl, rfl, by exact Ent.refl _⟩
       refine AllF.cons rfl rfl rfl rfl ?_ ?_
       ·exact Qj (o2 := 1) rfl rfl rfl (Ql rfl)
       refine AllF.cons rfl rfl rfl rfl ?_ ?_
       ·refine Qo rfl rfl (by rfl) ?_
        exact Ql rfl
       refine AllF.cons rfl rfl rfl rfl ?_ ?_
       ·exact Qj (o2 := 2) rfl rfl rfl (Ql rfl)
       refine AllF.cons rfl rfl rfl rfl ?_ ?_
       ·refine Qo rfl rfl (by rfl) ?_
        exact Ql rfl
       refine AllF.cons rfl rfl rfl rfl ?_ ?_
       ·exact Qd rfl rfl (Ql rfl)
       refine AllF.cons rfl rfl rfl rfl ?_ ?_
       ·refine XN rfl rfl ?_
        exact Ql rfl
       refine AllF.cons rfl rfl rfl rfl ?_ ?_
       ·refine XN rfl rfl ?_
        exact Ql rfl
       refine Xc rfl rfl rfl rfl ?_ ?_
       ·exact Qd rfl rfl (Ql rfl)
       refine Xc rfl rfl rfl rfl ?_ ?_
       ·exact Qd rfl rfl (Ql rfl)
       refine Xc rfl rfl rfl rfl ?_ ?_
       ·refine QE rfl rfl rfl (Qt (by omega) (by omega)) ?_
        exact Ql rfl
       exact AllF.nil
      ·refine QY rfl rfl rfl (by rfl) rfl ?_
       refine WpL.nil ⟨rfl, rfl, ?_⟩
       apply GoR.nil [⟨13, 5, _, [0, 1, 2, 3, 4, 5, 6, 7, 8, 9, 10, 11, 12], false⟩, ⟨14, 6, _, [0, 1, 2, 3, 4, 5, 6, 7, 8, 9, 10, 11, 12, 13], false⟩] (.inl ⟨_, .nil⟩) rfl rfl
       ·refine AllF.cons rfl rfl rfl rfl ?_ ?_
        ·exact Qe rfl rfl (Ql rfl)
        refine AllF.cons rfl rfl rfl rfl ?_ ?_
        ·exact Qe rfl rfl (Ql rfl)
        exact AllF.nil
       ·refine Qh ?_
        apply RetQ.mk
        ·exact (X2 rfl rfl (by rfl) rfl rfl)
        ·exact ⟨a3, c3, by rw [parF_p (out := out) (i := i) hPd (by omega) (by simpa using hrd.symm)]; try rfl, rfl⟩
        ·rw [parF_p (out := out) (i := i) hPd (by omega) (by simpa using hrd.symm)]
         exact Take.ent' (by repeat' constructor)
 ·simp only [Qr]
  refine Qd rfl rfl (QC rfl rfl rfl (QC rfl rfl rfl (QC rfl rfl rfl (XK rfl ?_))))
  intro gH
  refine QY rfl rfl rfl (by rfl) rfl ?_
  refine Qe rfl rfl (Qe rfl rfl (WpL.nil (Qb (Qb (Qa (Qd rfl rfl (Xj rfl rfl rfl (WpL.nil (QN rfl hE (Qb (Qa ?_)))))))))))
  refine XN rfl rfl ?_
  refine Qd rfl rfl ?_
  refine QY rfl rfl rfl (by rfl) rfl ?_
  refine Qe rfl rfl (Qe rfl rfl (WpL.nil (Qh ?_)))
  apply RetQ.mk
  ·exact (X2 rfl rfl (by rfl) rfl rfl)
  ·exact ⟨none, 0, by rw [parF_e hPd hE]; rfl, rfl⟩
  ·rw [parF_e hPd hE]
   exact Ent.own_nil (Take.ent' (by repeat' constructor))

end Go.Proofs.YtggamdlpiejbiaaGreat
namespace Go.Proofs.YtggamdlpiejbiaaGreat
open Go.RowKit Go.Shelf


theorem liv_par0 : (YF (Xv 4096) (Xw 65536) (Xx 65535) [80, 49, 32, 50, 32, 49, 32, 49, 32, 48, 32]).2 = (10, 0) ∧ (YF (Xv 4096) (Xw 65536) (Xx 65535) [80, 49, 32, 50, 32, 49, 32, 49, 32, 48, 32]).1.c = 1 ∧ (YF (Xv 4096) (Xw 65536) (Xx 65535) [80, 49, 32, 50, 32, 49, 32, 49, 32, 48, 32]).1.m = 1 ∧ (YF (Xv 4096) (Xw 65536) (Xx 65535) [80, 49, 32, 50, 32, 49, 32, 49, 32, 48, 32]).1.w = 2 ∧ (YF (Xv 4096) (Xw 65536) (Xx 65535) [80, 49, 32, 50, 32, 49, 32, 49, 32, 48, 32]).1.h = 1 ∧ (YF (Xv 4096) (Xw 65536) (Xx 65535) [80, 49, 32, 50, 32, 49, 32, 49, 32, 48, 32]).1.px = [281474976710657, 281474976710656] := by decide +kernel
theorem liv_par : YF (Xv 4096) (Xw 65536) (Xx 65535) [80, 49, 32, 50, 32, 49, 32, 49, 32, 48, 32] = (⟨1, 1, 2, 1, [281474976710657, 281474976710656]⟩, 10, 0) := by
  obtain ⟨h1, h2, h3, h4, h5, h6⟩ := liv_par0
  generalize YF (Xv 4096) (Xw 65536) (Xx 65535) [80, 49, 32, 50, 32, 49, 32, 49, 32, 48, 32] = q at *
  obtain ⟨⟨c, m, w, h, px⟩, n, e⟩ := q
  simp_all
theorem liv_wr : wrI ⟨1, 1, 2, 1, [281474976710657, 281474976710656]⟩ 4 = [80, 52, 10, 50, 32, 49, 10, 128] := by decide +kernel
theorem liv_kd : (4 : Int) ∈ Xh 1 1 := by rw [kindsF_1 (by unfold Yc; omega) (by decide) rfl]; decide
theorem liv_ft : X7 1 1 2 1 [281474976710657, 281474976710656] := by decide +kernel

theorem lives10_spec  : Fn Tryz.prog 37 #[] [] (fun v l => v = .bool true ∧ l = []) := by
 refine Qk (vs := []) Tryz.func37 rfl Tryz.ntmps37 rfl (Qb (Qa (Qe rfl rfl (WpL.nil (Qb (Qa ?_))))))
 refine s_bs (os := [(0, .const (.int .u8 80)), (1, .const (.int .u8 49)), (2, .const (.int .u8 32)), (3, .const (.int .u8 50)), (4, .const (.int .u8 32)), (5, .const (.int .u8 49)), (6, .const (.int .u8 32)), (7, .const (.int .u8 49)), (8, .const (.int .u8 32)), (9, .const (.int .u8 48)), (10, .const (.int .u8 32))]) [.int .u8 80, .int .u8 49, .int .u8 32, .int .u8 50, .int .u8 32, .int .u8 49, .int .u8 32, .int .u8 49, .int .u8 32, .int .u8 48, .int .u8 32] rfl rfl rfl (by simp [Value.cells]) (by decide) (fun a hh => rfl) ?_
 intro g7
 refine s_b2b rfl Tryz.underlying22 Tryz.underlying5 rfl (by repeat' constructor) ?_
 refine Qg rfl rfl (by repeat' constructor) (hdAll_spec) ?_
 rintro _ _ ⟨rfl, rfl⟩
 simp only [Qr]
 refine Qg rfl rfl (by repeat' constructor) (iParse_spec (cvR 5 g7 11 (Xn [80, 49, 32, 50, 32, 49, 32, 49, 32, 48, 32])) (some ⟨g7, 0, none⟩) 11 [80, 49, 32, 50, 32, 49, 32, 49, 32, 48, 32] RdsL.cvR (by decide) (by decide) (by decide) 4096 65536 65535) ?_
 rintro _ _ ⟨aR, cR, rfl, rfl⟩
 simp only [Qr]
 rw [liv_par]
 dsimp only
 refine YB (T := 92) (s := 1) (a := aR) (c := cR) (by repeat' constructor) (fun hcr => ?_)
 refine Qd rfl rfl (QC rfl rfl rfl (QC rfl rfl rfl (QC rfl rfl rfl (XK rfl ?_))))
 intro gM
 refine QY rfl rfl rfl (by rfl) rfl ?_
 refine Qe rfl rfl (Qe rfl rfl (WpL.nil (Qb (Qa ?_))))
 refine Qz (vs := [_, _, _, _, _]) rfl rfl rfl (by rfl) ?_
 refine Qg rfl rfl (by repeat' constructor) (iWriteN_spec (QG 92 1 aR cR 2 (Q5 [281474976710657, 281474976710656])) 1 1 2 1 aR cR [281474976710657, 281474976710656] QI (by decide) hcr (by decide) 4) ?_
 intro v0 m0 hN0
 rcases hN0 with ⟨hT1, hT2, gW, cW, rfl, rfl⟩ | ⟨hT, rfl, rfl⟩
 ·simp only [Qr]
  refine Qd rfl rfl (QC rfl rfl rfl (QC rfl rfl rfl (Qe rfl rfl (Qe rfl rfl (WpL.nil (Qb (Qa (Qd rfl rfl (QO rfl rfl rfl (Qd rfl rfl (Qv (dj := 21) rfl rfl ?_)))))))))))
  refine Qf rfl rfl (Qd rfl rfl (Qf rfl rfl (QO rfl rfl rfl (Qx rfl rfl rfl (Qd rfl rfl (Qv (dj := 25) rfl rfl ?_))))))
  refine Qf rfl rfl (Qd rfl rfl (Qf rfl rfl (QO rfl rfl rfl (Qx rfl rfl rfl (Qd rfl rfl (Qv (dj := 29) rfl rfl ?_))))))
  refine Qf rfl rfl (Qd rfl rfl (Qf rfl rfl (s_b2sR rfl Tryz.underlying22 Tryz.underlying5 Tryz.underlying9 rfl (RdsL.rdo (g := gW) (xs := Xn (wrI ⟨1, 1, 2, 1, [281474976710657, 281474976710656]⟩ 4))) (by exact Take.ent' (by repeat' constructor)) rfl ?_)))
  refine Qf rfl rfl ?_
  refine s_bs (os := [(0, .const (.int .u8 80)), (1, .const (.int .u8 52)), (2, .const (.int .u8 10)), (3, .const (.int .u8 50)), (4, .const (.int .u8 32)), (5, .const (.int .u8 49)), (6, .const (.int .u8 10)), (7, .const (.int .u8 128))]) [.int .u8 80, .int .u8 52, .int .u8 10, .int .u8 50, .int .u8 32, .int .u8 49, .int .u8 10, .int .u8 128] rfl rfl rfl (by simp [Value.cells]) (by decide) (fun a hh => rfl) ?_
  intro g32
  refine Qf rfl rfl (s_b2sR rfl Tryz.underlying22 Tryz.underlying5 Tryz.underlying9 rfl (RdsL.blk (g := g32) (o := 0) (T := 5) (cs := Xn [80, 52, 10, 50, 32, 49, 10, 128]) (xs := Xn [80, 52, 10, 50, 32, 49, 10, 128]) rfl) (by exact Take.ent' (by repeat' constructor)) rfl ?_)
  refine Qf rfl rfl (s_seq rfl rfl rfl (Qx rfl rfl rfl (Qe rfl rfl (WpL.nil (Qh ?_)))))
  apply RetQ.mk
  ·exact (Res.one rfl rfl)
  ·exact ⟨congrArg Value.bool (decide_eq_true (by have q := liv_wr; exact congrArg strOfNums q)), rfl⟩
  ·exact Ent.nil _
 ·simp only [Qr]
  exfalso
  exact hT ⟨liv_kd, liv_ft⟩

end Go.Proofs.YtggamdlpiejbiaaGreat
namespace Go.Proofs.YtggamdlpiejbiaaGreat
open Go.RowKit Go.Shelf


theorem kinds_posF {C M : Int} (h : Yc C M) : 0 < (Xh C M).length := by
  by_cases h3 : C = 3
  · rw [kindsF_3 h h3]; decide
  · by_cases h1 : M = 1
    · rw [kindsF_1 h h3 h1]; decide
    · rw [kindsF_2 h h3 h1]; decide
theorem good_fmt {most : Int} {m : Img} (h : YH most m) : Yc m.c m.m := ⟨h.1, h.2.1⟩
theorem as10_spec (x : Img) (a : Option Addr) (c : Nat) : Fn Tryz.prog 41 #[.agg (mC x a c).toArray] [] (fun v l => v = .agg (mC x a c).toArray ∧ l = []) := by
 refine Qk (vs := [.agg (mC x a c).toArray]) Tryz.func41 rfl Tryz.ntmps41 rfl (Qb (Qa (QP rfl rfl rfl ?_)))
 intro g1
 refine XK rfl ?_
 intro g2
 refine WpL.nil (Qb (Qa (Qj (o2 := 0) rfl rfl rfl ?_)))
 refine Qz (vs := [_, _]) rfl rfl rfl (by rfl) ?_
 refine Qj (o2 := 2) rfl rfl rfl (Qj (o2 := 2) rfl rfl rfl (Qo rfl rfl (by rfl) ?_))
 refine Qj (o2 := 2) rfl rfl rfl (Qj (o2 := 3) rfl rfl rfl (Qo rfl rfl (by rfl) ?_))
 refine Qj (o2 := 2) rfl rfl rfl (Qj (o2 := 4) rfl rfl rfl (Qo rfl rfl (by rfl) ?_))
 refine XN rfl rfl ?_
 refine XN rfl rfl ?_
 refine QY rfl rfl rfl (by rfl) rfl ?_
 refine WpL.nil (Qh ?_)
 apply RetQ.mk
 ·exact (XF rfl rfl (by rfl))
 ·exact ⟨rfl, rfl⟩
 ·exact Ent.nil _

end Go.Proofs.YtggamdlpiejbiaaGreat
namespace Go.Proofs.YtggamdlpiejbiaaGreat
open Go.RowKit Go.Shelf

theorem sEqual_spec (As : List HP) (a b : Option Addr) (ca cb : Nat) (xs ys : List Int) (hx : RdsL As a (Q5 xs)) (hy : RdsL As b (Q5 ys)) (hl : xs.length ≤ 9223372036854775807) : Fn Tryz.prog 148 #[.slice a xs.length ca, .slice b ys.length cb] As (fun v l => v = .bool (decide (xs = ys)) ∧ l = As) := by
 refine Qk (vs := [.slice a xs.length ca, .slice b ys.length cb]) Tryz.func148 rfl Tryz.ntmps148 rfl (Qb (Qa (Qe rfl rfl (WpL.nil (Qb (Qb (Qa (Qd rfl rfl (QK rfl rfl (Qd rfl rfl (QK rfl rfl (Xj rfl rfl rfl ?_))))))))))))
 refine WpL.nil (Qm rfl (fun h0 => ?_) (fun h0 => ?_))
 ·refine Qb (Qa (Qe rfl rfl (WpL.nil (Qh ?_))))
  apply RetQ.mk
  ·exact (Res.one rfl rfl)
  ·exact ⟨congrArg Value.bool (df fun e => h0 (by rw [e])), rfl⟩
  ·exact Ent.refl _
 ·have hlen : xs.length = ys.length := by omega
  refine Wp.skip (Qb (Qb (Qa (Qd rfl rfl (QK rfl rfl (Qd rfl rfl (WpL.nil (Wp.block ?_))))))))
  refine Wp.loopD (σ := Nat) (fun k => k ≤ xs.length ∧ xs.take k = ys.take k) [4, 5, 13, 14, 15, 16, 17, 18, 19, 20, 21, 22, 23, 24, 25] (fun k => [(13, .int .i64 (k : Int)), (12, .int .i64 (xs.length : Int))]) (fun _ => _) (fun k => xs.length - k) 0 ?_ (by repeat (first | exact FrLe.nil | refine FrLe.cons rfl ?_)) (Ent.refl _) ?_
  ·exact ⟨Nat.zero_le _, rfl⟩
  ·rintro k ⟨hk, htk⟩
   refine Qb (Qa (Q6 rfl rfl rfl (WpL.nil (Qb (Qm rfl (fun h2 => ?_) (fun h2 => ?_))))))
   ·have hkx : k < xs.length := by omega
    have hky : k < ys.length := by omega
    refine Wp.skip (Qb (Wp.block ?_))
    refine Qb (Qa (Qd rfl rfl (Qe rfl rfl (WpL.nil (Qb ?_)))))
    apply QS mixed [⟨16, _, []⟩, ⟨17, _, []⟩, ⟨18, _, [0, 1]⟩, ⟨19, _, [2]⟩, ⟨20, _, []⟩, ⟨21, _, []⟩, ⟨22, _, [4, 5]⟩, ⟨23, _, [6]⟩, ⟨24, _, [3, 7]⟩] rfl
    ·refine AllObs.mk ?_ ?_
     ·exact Qd rfl rfl (Ql rfl)
     refine AllObs.mk ?_ ?_
     ·exact Qd rfl rfl (Ql rfl)
     refine AllObs.mk ?_ ?_
     ·refine Q3 k rfl rfl rfl hx (Ent.refl _) rfl (by omega) (by rw [Xt]; exact hkx) ?_
      exact Ql rfl
     refine AllObs.mk ?_ ?_
     ·refine Xb rfl rfl hx (Ent.refl _) (Yg xs hkx) ?_
      exact Ql rfl
     refine AllObs.mk ?_ ?_
     ·exact Qd rfl rfl (Ql rfl)
     refine AllObs.mk ?_ ?_
     ·exact Qd rfl rfl (Ql rfl)
     refine AllObs.mk ?_ ?_
     ·refine Q3 k rfl rfl rfl hy (Ent.refl _) rfl hky (by rw [Xt]; exact hky) ?_
      exact Ql rfl
     refine AllObs.mk ?_ ?_
     ·refine Xb rfl rfl hy (Ent.refl _) (Yg ys hky) ?_
      exact Ql rfl
     refine AllObs.mk ?_ ?_
     ·exact Xj rfl rfl rfl (Ql rfl)
     exact AllObs.nil
    ·refine Qm rfl (fun h3 => ?_) (fun h3 => ?_)
     ·refine Qb (Qa (Qe rfl rfl (WpL.nil (Qh ?_))))
      apply RetQ.mk
      ·exact (Res.one rfl rfl)
      ·exact ⟨congrArg Value.bool (df fun e => h3 (by subst e; rfl)), rfl⟩
      ·exact Ent.refl _
     ·refine Wp.skip (Qa (QE rfl rfl rfl (Qt (by omega) (by omega)) ?_))
      refine Qd rfl rfl (WpL.nil (Qy (k + 1) ?_ ?_ (by exact Top.le (by repeat (first | exact FrLe.nil | refine FrLe.cons rfl ?_))) (by repeat (first | exact FrLe.nil | refine FrLe.cons rfl ?_)) ?_))
      ·refine ⟨by omega, ?_⟩
       rw [List.take_succ_eq_append_getElem hkx, List.take_succ_eq_append_getElem hky, htk, Classical.not_not.1 h3]
      ·omega
      ·exact Ent.refl _
   ·obtain rfl : k = xs.length := by omega
    have hxy : xs = ys := by rw [List.take_length, hlen, List.take_length] at htk; exact htk
    refine QL (Qb (Qa (Qe rfl rfl (WpL.nil (Qh ?_)))))
    apply RetQ.mk
    ·exact (Res.one rfl rfl)
    ·exact ⟨congrArg Value.bool (dt hxy), rfl⟩
    ·exact Ent.refl _


theorem rSame03_spec (As : List HP) (x y : Img) (a b : Option Addr) (c c2 : Nat) (hx : RdsL As a (Q5 x.px)) (hy : RdsL As b (Q5 y.px)) (hl : x.px.length ≤ 9223372036854775807) : Fn Tryz.prog 83 #[.agg #[.int .i64 x.w, .int .i64 x.h, .slice a x.px.length c], .agg #[.int .i64 y.w, .int .i64 y.h, .slice b y.px.length c2]] As (fun v l => v = .bool (decide (x.w = y.w ∧ x.h = y.h ∧ x.px = y.px)) ∧ l = As) := by
 refine Qk (vs := [.agg #[.int .i64 x.w, .int .i64 x.h, .slice a x.px.length c], .agg #[.int .i64 y.w, .int .i64 y.h, .slice b y.px.length c2]]) Tryz.func83 rfl Tryz.ntmps83 rfl (Qb (Qa (QP rfl rfl rfl ?_)))
 intro g1
 refine QP rfl rfl rfl ?_
 intro g2
 refine Qe rfl rfl (WpL.nil (Qb (Qa (Qj (o2 := 0) rfl rfl rfl (Qo rfl rfl (by rfl) ?_)))))
 refine Qj (o2 := 0) rfl rfl rfl (Qo rfl rfl (by rfl) ?_)
 refine QO rfl rfl rfl (Qd rfl rfl (QH rfl rfl rfl (fun hg1 => ?_) (fun hg1 => ?_)))
 ·have hg1 := of_decide_eq_true hg1
  refine Qj (o2 := 1) rfl rfl rfl (Qf rfl rfl (Qo rfl rfl (by rfl) ?_))
  refine Qf rfl rfl (Qj (o2 := 1) rfl rfl rfl (Qf rfl rfl (Qo rfl rfl (by rfl) ?_)))
  refine Qf rfl rfl (QO rfl rfl rfl (Qx rfl rfl rfl (Qd rfl rfl (QH rfl rfl rfl (fun hg2 => ?_) (fun hg2 => ?_)))))
  ·have hg2 := of_decide_eq_true hg2
   refine Qj (o2 := 2) rfl rfl rfl (Qf rfl rfl (Qo rfl rfl (by rfl) ?_))
   refine Qf rfl rfl (Qj (o2 := 2) rfl rfl rfl (Qf rfl rfl (Qo rfl rfl (by rfl) ?_)))
   refine Qf rfl rfl (Qg rfl rfl (Take.skip (Take.skip Take.all)) (SameRowW_spec As a b c c2 x.px y.px hx hy hl) ?_)
   rintro _ _ ⟨rfl, rfl⟩
   refine Qx rfl rfl rfl (Qe rfl rfl (WpL.nil (Qh ?_)))
   apply RetQ.mk
   ·exact (Res.one rfl rfl)
   ·exact ⟨congrArg Value.bool (decide_eq_decide.2 ⟨fun q => ⟨by assumption, by assumption, q⟩, fun q => q.2.2⟩), rfl⟩
   ·exact (Zq rfl).ent'
  ·have hg2 := of_decide_eq_false hg2
   refine Qc rfl rfl rfl (by decide) (Qc rfl rfl rfl (by decide) (Qc rfl rfl rfl (by decide) (Qc rfl rfl rfl (by decide) (Qq rfl rfl rfl (Qe rfl rfl (WpL.nil (Qh ?_)))))))
   apply RetQ.mk
   ·exact (Res.one rfl rfl)
   ·exact ⟨by rw [decide_eq_false (fun q => absurd q.2.1 (by assumption))], rfl⟩
   ·exact Ent.drop (Ent.drop (Ent.refl _))
 ·have hg1 := of_decide_eq_false hg1
  refine Qc rfl rfl rfl (by decide) (Qc rfl rfl rfl (by decide) (Qc rfl rfl rfl (by decide) (Qc rfl rfl rfl (by decide) (Qq rfl rfl rfl (Qd rfl rfl (Qc rfl rfl rfl (by decide) (Qc rfl rfl rfl (by decide) (Qc rfl rfl rfl (by decide) (Qc rfl rfl rfl (by decide) (Qc rfl rfl rfl (by decide) (Qq rfl rfl rfl (Qe rfl rfl ?_))))))))))))
  refine WpL.nil (Qh ?_)
  apply RetQ.mk
  ·exact (Res.one rfl rfl)
  ·exact ⟨by rw [decide_eq_false (fun q => absurd q.1 (by assumption))], rfl⟩
  ·exact Ent.drop (Ent.drop (Ent.refl _))

end Go.Proofs.YtggamdlpiejbiaaGreat
namespace Go.Proofs.YtggamdlpiejbiaaGreat
open Go.RowKit Go.Shelf

theorem of10_spec (x : Img) (a : Option Addr) (c : Nat) : Fn Tryz.prog 46 #[.agg (mC x a c).toArray] [] (fun v l => v = .agg (mC x a c).toArray ∧ l = []) := by
 refine Qk (vs := [.agg (mC x a c).toArray]) Tryz.func46 rfl Tryz.ntmps46 rfl (Qb (Qa (QP rfl rfl rfl ?_)))
 intro g1
 refine XK rfl ?_
 intro g2
 refine WpL.nil (Qb (Qa (Qj (o2 := 0) rfl rfl rfl ?_)))
 refine Qz (vs := [_, _]) rfl rfl rfl (by rfl) ?_
 refine Qj (o2 := 2) rfl rfl rfl (Qj (o2 := 2) rfl rfl rfl (Qo rfl rfl (by rfl) ?_))
 refine Qj (o2 := 2) rfl rfl rfl (Qj (o2 := 3) rfl rfl rfl (Qo rfl rfl (by rfl) ?_))
 refine Qj (o2 := 2) rfl rfl rfl (Qj (o2 := 4) rfl rfl rfl (Qo rfl rfl (by rfl) ?_))
 refine XN rfl rfl ?_
 refine XN rfl rfl ?_
 refine QY rfl rfl rfl (by rfl) rfl ?_
 refine WpL.nil (Qh ?_)
 apply RetQ.mk
 ·exact (XF rfl rfl (by rfl))
 ·exact ⟨rfl, rfl⟩
 ·exact Ent.nil _


end Go.Proofs.YtggamdlpiejbiaaGreat
namespace Go.Proofs.YtggamdlpiejbiaaGreat
open Go.RowKit Go.Shelf

/-- A part's numbers, row by row. -/
def Xf (px : List Int) (W x y w : Nat) : Nat → List Int
  | 0 => []
  | k + 1 => Xf px W x y w k ++ (px.drop ((y + k) * W + x)).take w
def Yy (W H x y w h : Nat) : Prop := 1 ≤ w ∧ 1 ≤ h ∧ x + w ≤ W ∧ y + h ≤ H
instance (W H x y w h : Nat) : Decidable (Yy W H x y w h) := by unfold Yy; infer_instance
theorem prow_in {W H x y w h k : Nat} {px : List Int} (hl : px.length = W * H) (hi : Yy W H x y w h) (hk : k < h) : (y + k) * W + x + w ≤ px.length := by
  obtain ⟨_, _, h3, h4⟩ := hi
  have h5 : (y + k + 1) * W ≤ H * W := Nat.mul_le_mul_right _ (by omega)
  rw [Nat.add_mul, Nat.one_mul, Nat.mul_comm H W] at h5
  omega
theorem prow_len {px : List Int} {L w : Nat} (h : L + w ≤ px.length) : ((px.drop L).take w).length = w := by
  rw [List.length_take, List.length_drop]; omega
theorem Zv {px : List Int} {W H x y w h : Nat} (hl : px.length = W * H) (hi : Yy W H x y w h) : ∀ k, k ≤ h → (Xf px W x y w k).length = k * w
  | 0, _ => by simp [Xf]
  | k + 1, hk => by rw [Xf, List.length_append, Zv hl hi k (by omega), prow_len (prow_in hl hi hk), Nat.add_mul, Nat.one_mul]
theorem partL_step {px qx : List Int} {W x y w k : Nat} (h : Xf px W x y w k = qx.take (k * w)) (e : (px.drop ((y + k) * W + x)).take w = (qx.drop (k * w)).take w) : Xf px W x y w (k + 1) = qx.take ((k + 1) * w) := by
  rw [Xf, h, e, Nat.add_mul, Nat.one_mul, List.take_add]
theorem partL_pre {px : List Int} {W H x y w h : Nat} (hl : px.length = W * H) (hi : Yy W H x y w h) {k : Nat} : ∀ j, k ≤ j → j ≤ h → (Xf px W x y w j).take (k * w) = Xf px W x y w k
  | 0, h0, _ => by obtain rfl : k = 0 := by omega
                   simp [Xf]
  | j + 1, h0, h1 => by
    by_cases e : k = j + 1
    · subst e; rw [← Zv hl hi (j + 1) h1, List.take_length]
    · rw [Xf, List.take_append_of_le_length, partL_pre hl hi j (by omega) (by omega)]
      rw [Zv hl hi j (by omega)]
      exact Nat.mul_le_mul_right _ (by omega)
theorem partL_row {px qx : List Int} {W H x y w h : Nat} (hl : px.length = W * H) (hi : Yy W H x y w h) {k : Nat} (hk : k < h) (e : Xf px W x y w h = qx) : (px.drop ((y + k) * W + x)).take w = (qx.drop (k * w)).take w := by
  have h1 := partL_pre hl hi (k := k + 1) h (by omega) (Nat.le_refl _)
  have h0 := partL_pre hl hi (k := k) h (by omega) (Nat.le_refl _)
  rw [e] at h1 h0
  rw [Xf, ← h0, Nat.add_mul, Nat.one_mul, List.take_add] at h1
  exact (List.append_cancel_left h1).symm
/-- Is another one there? -/
def Q7 (px : List Int) (W H : Nat) (qx : List Int) (w h x y : Nat) : Bool := decide (Yy W H x y w h ∧ Xf px W x y w h = qx)
/-- Where, in a row, and in all rows. -/
def Xp (has : Nat → Nat → Bool) (y : Nat) : Nat → List (Int × Int)
  | 0 => []
  | n + 1 => Xp has y n ++ (if has n y then [((n : Int), (y : Int))] else [])
def Xa (has : Nat → Nat → Bool) (W : Nat) : Nat → List (Int × Int)
  | 0 => []
  | n + 1 => Xa has W n ++ Xp has n W
theorem findX_len (has : Nat → Nat → Bool) (y : Nat) : ∀ n, (Xp has y n).length ≤ n
  | 0 => Nat.le_refl _
  | n + 1 => by
    have := findX_len has y n
    rw [Xp, List.length_append]
    split <;> simp only [List.length_cons, List.length_nil] <;> omega
theorem findY_len (has : Nat → Nat → Bool) (W : Nat) : ∀ n, (Xa has W n).length ≤ n * W
  | 0 => Nat.zero_le _
  | n + 1 => by
    have h1 := findY_len has W n
    have h2 := findX_len has n W
    rw [Xa, List.length_append, Nat.add_mul, Nat.one_mul]
    omega
theorem findX_stop {has : Nat → Nat → Bool} {y x : Nat} (h : ∀ n, x ≤ n → has n y = false) : ∀ n, x ≤ n → Xp has y n = Xp has y x
  | 0, h0 => by obtain rfl : x = 0 := by omega
                rfl
  | n + 1, h0 => by
    by_cases e : x = n + 1
    · rw [e]
    · rw [Xp, h n (by omega), findX_stop h n (by omega)]; simp
theorem has_stop {px qx : List Int} {W H w h x y : Nat} (hn : ¬ Yy W H x y w h) : ∀ n, x ≤ n → Q7 px W H qx w h n y = false := fun n hx => decide_eq_false fun q => hn (by obtain ⟨⟨h1, h2, h3, h4⟩, _⟩ := q; exact ⟨h1, h2, by omega, h4⟩)
/-- Places as they lie. -/
def plC (p : Int × Int) : List Value := [.int .i64 p.1, .int .i64 p.2]
end Go.Proofs.YtggamdlpiejbiaaGreat
namespace Go.Proofs.YtggamdlpiejbiaaGreat
open Go.RowKit Go.Shelf

theorem rcInside_spec (W H : Nat) (n : Nat) (a : Option Addr) (c : Nat) (x y w h : Nat) (hW : W ≤ 1000) (hH : H ≤ 1000) : Fn Tryz.prog 149 #[.agg #[.int .i64 (W : Int), .int .i64 (H : Int), .slice a n c], .int .i64 (x : Int), .int .i64 (y : Int), .int .i64 (w : Int), .int .i64 (h : Int)] [] (fun v l => v = .bool (decide (Yy W H x y w h)) ∧ l = []) := by
 refine Qk (vs := [.agg #[.int .i64 (W : Int), .int .i64 (H : Int), .slice a n c], .int .i64 (x : Int), .int .i64 (y : Int), .int .i64 (w : Int), .int .i64 (h : Int)]) Tryz.func149 rfl Tryz.ntmps149 rfl (Qb (Qa (QP rfl rfl rfl ?_)))
 intro g1
 refine Qe rfl rfl (WpL.nil (Qb (Qa (Qd rfl rfl (Zo rfl rfl rfl (Qd rfl rfl (QH rfl rfl rfl (fun hg1 => ?_) (fun hg1 => ?_))))))))
 ·have hg1 := of_decide_eq_true hg1
  refine Qd rfl rfl (Qf rfl rfl (Zo rfl rfl rfl (Qx rfl rfl rfl (Qd rfl rfl (QH rfl rfl rfl (fun hg2 => ?_) (fun hg2 => ?_))))))
  ·have hg2 := of_decide_eq_true hg2
   refine Qd rfl rfl (Qf rfl rfl (Zo rfl rfl rfl (Qx rfl rfl rfl (Qd rfl rfl (QH rfl rfl rfl (fun hg3 => ?_) (fun hg3 => ?_))))))
   ·have hg3 := of_decide_eq_true hg3
    refine Qd rfl rfl (Qf rfl rfl (Zo rfl rfl rfl (Qx rfl rfl rfl (Qd rfl rfl (QH rfl rfl rfl (fun hg4 => ?_) (fun hg4 => ?_))))))
    ·have hg4 := of_decide_eq_true hg4
     refine Qd rfl rfl (Qf rfl rfl (Qj (o2 := 0) rfl rfl rfl (Qf rfl rfl (Qo rfl rfl (by rfl) ?_))))
     refine Qf rfl rfl (s_le rfl rfl rfl (Qx rfl rfl rfl (Qd rfl rfl (QH rfl rfl rfl (fun hg5 => ?_) (fun hg5 => ?_)))))
     ·have hg5 := of_decide_eq_true hg5
      refine Qd rfl rfl (Qf rfl rfl (Qj (o2 := 1) rfl rfl rfl (Qf rfl rfl (Qo rfl rfl (by rfl) ?_))))
      refine Qf rfl rfl (s_le rfl rfl rfl (Qx rfl rfl rfl (Qd rfl rfl (QH rfl rfl rfl (fun hg6 => ?_) (fun hg6 => ?_)))))
      ·have hg6 := of_decide_eq_true hg6
       refine Qd rfl rfl (Qf rfl rfl (Qj (o2 := 0) rfl rfl rfl (Qf rfl rfl (Qo rfl rfl (by rfl) ?_))))
       refine Qf rfl rfl (Qd rfl rfl (Qf rfl rfl (Yz rfl rfl rfl (Qt (by omega) (by omega)) ?_)))
       refine Qf rfl rfl (s_le rfl rfl rfl (Qx rfl rfl rfl (Qd rfl rfl (QH rfl rfl rfl (fun hg7 => ?_) (fun hg7 => ?_)))))
       ·have hg7 := of_decide_eq_true hg7
        refine Qd rfl rfl (Qf rfl rfl (Qj (o2 := 1) rfl rfl rfl (Qf rfl rfl (Qo rfl rfl (by rfl) ?_))))
        refine Qf rfl rfl (Qd rfl rfl (Qf rfl rfl (Yz rfl rfl rfl (Qt (by omega) (by omega)) ?_)))
        refine Qf rfl rfl (s_le rfl rfl rfl (Qx rfl rfl rfl (Qe rfl rfl (WpL.nil (Qh ?_)))))
        apply RetQ.mk
        ·exact (Res.one rfl rfl)
        ·exact ⟨congrArg Value.bool (decide_eq_decide.2 (by unfold Yy; omega)), rfl⟩
        ·exact Ent.nil _
       ·have hg7 := of_decide_eq_false hg7
        refine Qc rfl rfl rfl (by decide) (Qc rfl rfl rfl (by decide) (Qc rfl rfl rfl (by decide) (Qc rfl rfl rfl (by decide) (Qc rfl rfl rfl (by decide) (Qq rfl rfl rfl (Qe rfl rfl (WpL.nil (Qh ?_))))))))
        apply RetQ.mk
        ·exact (Res.one rfl rfl)
        ·exact ⟨by rw [decide_eq_false (by unfold Yy; omega)], rfl⟩
        ·exact Ent.nil _
      ·have hg6 := of_decide_eq_false hg6
       refine Qc rfl rfl rfl (by decide) (Qc rfl rfl rfl (by decide) (Qc rfl rfl rfl (by decide) (Qc rfl rfl rfl (by decide) (Qc rfl rfl rfl (by decide) (Qq rfl rfl rfl (Qd rfl rfl (Qc rfl rfl rfl (by decide) (Qc rfl rfl rfl (by decide) (Qc rfl rfl rfl (by decide) (Qc rfl rfl rfl (by decide) (Qc rfl rfl rfl (by decide) (Qc rfl rfl rfl (by decide) ?_))))))))))))
       refine Qq rfl rfl rfl (Qe rfl rfl (WpL.nil (Qh ?_)))
       apply RetQ.mk
       ·exact (Res.one rfl rfl)
       ·exact ⟨by rw [decide_eq_false (by unfold Yy; omega)], rfl⟩
       ·exact Ent.nil _
     ·have hg5 := of_decide_eq_false hg5
      refine Qc rfl rfl rfl (by decide) (Qc rfl rfl rfl (by decide) (Qc rfl rfl rfl (by decide) (Qq rfl rfl rfl (Qd rfl rfl (Qc rfl rfl rfl (by decide) (Qc rfl rfl rfl (by decide) (Qc rfl rfl rfl (by decide) (Qc rfl rfl rfl (by decide) (Qc rfl rfl rfl (by decide) (Qc rfl rfl rfl (by decide) (Qq rfl rfl rfl (Qd rfl rfl ?_))))))))))))
      refine Qc rfl rfl rfl (by decide) (Qc rfl rfl rfl (by decide) (Qc rfl rfl rfl (by decide) (Qc rfl rfl rfl (by decide) (Qc rfl rfl rfl (by decide) (Qc rfl rfl rfl (by decide) (Qq rfl rfl rfl (Qe rfl rfl (WpL.nil (Qh ?_)))))))))
      apply RetQ.mk
      ·exact (Res.one rfl rfl)
      ·exact ⟨by rw [decide_eq_false (by unfold Yy; omega)], rfl⟩
      ·exact Ent.nil _
    ·have hg4 := of_decide_eq_false hg4
     refine Qc rfl rfl rfl (by decide) (Qc rfl rfl rfl (by decide) (Qc rfl rfl rfl (by decide) (Qq rfl rfl rfl (Qd rfl rfl (Qc rfl rfl rfl (by decide) (Qc rfl rfl rfl (by decide) (Qc rfl rfl rfl (by decide) (Qc rfl rfl rfl (by decide) (Qq rfl rfl rfl (Qd rfl rfl (Qc rfl rfl rfl (by decide) (Qc rfl rfl rfl (by decide) ?_))))))))))))
     refine Qc rfl rfl rfl (by decide) (Qc rfl rfl rfl (by decide) (Qc rfl rfl rfl (by decide) (Qc rfl rfl rfl (by decide) (Qq rfl rfl rfl (Qd rfl rfl (Qc rfl rfl rfl (by decide) (Qc rfl rfl rfl (by decide) (Qc rfl rfl rfl (by decide) (Qc rfl rfl rfl (by decide) (Qc rfl rfl rfl (by decide) (Qc rfl rfl rfl (by decide) (Qq rfl rfl rfl ?_))))))))))))
     refine Qe rfl rfl (WpL.nil (Qh ?_))
     apply RetQ.mk
     ·exact (Res.one rfl rfl)
     ·exact ⟨by rw [decide_eq_false (by unfold Yy; omega)], rfl⟩
     ·exact Ent.nil _
   ·have hg3 := of_decide_eq_false hg3
    refine Qc rfl rfl rfl (by decide) (Qq rfl rfl rfl (Qd rfl rfl (Qc rfl rfl rfl (by decide) (Qc rfl rfl rfl (by decide) (Qc rfl rfl rfl (by decide) (Qc rfl rfl rfl (by decide) (Qq rfl rfl rfl (Qd rfl rfl (Qc rfl rfl rfl (by decide) (Qc rfl rfl rfl (by decide) (Qc rfl rfl rfl (by decide) (Qc rfl rfl rfl (by decide) ?_))))))))))))
    refine Qq rfl rfl rfl (Qd rfl rfl (Qc rfl rfl rfl (by decide) (Qc rfl rfl rfl (by decide) (Qc rfl rfl rfl (by decide) (Qc rfl rfl rfl (by decide) (Qc rfl rfl rfl (by decide) (Qc rfl rfl rfl (by decide) (Qq rfl rfl rfl (Qd rfl rfl (Qc rfl rfl rfl (by decide) (Qc rfl rfl rfl (by decide) (Qc rfl rfl rfl (by decide) ?_))))))))))))
    refine Qc rfl rfl rfl (by decide) (Qc rfl rfl rfl (by decide) (Qc rfl rfl rfl (by decide) (Qq rfl rfl rfl (Qe rfl rfl (WpL.nil (Qh ?_))))))
    apply RetQ.mk
    ·exact (Res.one rfl rfl)
    ·exact ⟨by rw [decide_eq_false (by unfold Yy; omega)], rfl⟩
    ·exact Ent.nil _
  ·have hg2 := of_decide_eq_false hg2
   refine Qc rfl rfl rfl (by decide) (Qq rfl rfl rfl (Qd rfl rfl (Qc rfl rfl rfl (by decide) (Qc rfl rfl rfl (by decide) (Qq rfl rfl rfl (Qd rfl rfl (Qc rfl rfl rfl (by decide) (Qc rfl rfl rfl (by decide) (Qc rfl rfl rfl (by decide) (Qc rfl rfl rfl (by decide) (Qq rfl rfl rfl (Qd rfl rfl ?_))))))))))))
   refine Qc rfl rfl rfl (by decide) (Qc rfl rfl rfl (by decide) (Qc rfl rfl rfl (by decide) (Qc rfl rfl rfl (by decide) (Qq rfl rfl rfl (Qd rfl rfl (Qc rfl rfl rfl (by decide) (Qc rfl rfl rfl (by decide) (Qc rfl rfl rfl (by decide) (Qc rfl rfl rfl (by decide) (Qc rfl rfl rfl (by decide) (Qc rfl rfl rfl (by decide) (Qq rfl rfl rfl ?_))))))))))))
   refine Qd rfl rfl (Qc rfl rfl rfl (by decide) (Qc rfl rfl rfl (by decide) (Qc rfl rfl rfl (by decide) (Qc rfl rfl rfl (by decide) (Qc rfl rfl rfl (by decide) (Qc rfl rfl rfl (by decide) (Qq rfl rfl rfl (Qe rfl rfl (WpL.nil (Qh ?_))))))))))
   apply RetQ.mk
   ·exact (Res.one rfl rfl)
   ·exact ⟨by rw [decide_eq_false (by unfold Yy; omega)], rfl⟩
   ·exact Ent.nil _
 ·have hg1 := of_decide_eq_false hg1
  refine Qc rfl rfl rfl (by decide) (Qq rfl rfl rfl (Qd rfl rfl (Qc rfl rfl rfl (by decide) (Qc rfl rfl rfl (by decide) (Qq rfl rfl rfl (Qd rfl rfl (Qc rfl rfl rfl (by decide) (Qc rfl rfl rfl (by decide) (Qq rfl rfl rfl (Qd rfl rfl (Qc rfl rfl rfl (by decide) (Qc rfl rfl rfl (by decide) ?_))))))))))))
  refine Qc rfl rfl rfl (by decide) (Qc rfl rfl rfl (by decide) (Qq rfl rfl rfl (Qd rfl rfl (Qc rfl rfl rfl (by decide) (Qc rfl rfl rfl (by decide) (Qc rfl rfl rfl (by decide) (Qc rfl rfl rfl (by decide) (Qq rfl rfl rfl (Qd rfl rfl (Qc rfl rfl rfl (by decide) (Qc rfl rfl rfl (by decide) (Qc rfl rfl rfl (by decide) ?_))))))))))))
  refine Qc rfl rfl rfl (by decide) (Qc rfl rfl rfl (by decide) (Qc rfl rfl rfl (by decide) (Qq rfl rfl rfl (Qd rfl rfl (Qc rfl rfl rfl (by decide) (Qc rfl rfl rfl (by decide) (Qc rfl rfl rfl (by decide) (Qc rfl rfl rfl (by decide) (Qc rfl rfl rfl (by decide) (Qc rfl rfl rfl (by decide) (Qq rfl rfl rfl (Qe rfl rfl ?_))))))))))))
  refine WpL.nil (Qh ?_)
  apply RetQ.mk
  ·exact (Res.one rfl rfl)
  ·exact ⟨by rw [decide_eq_false (by unfold Yy; omega)], rfl⟩
  ·exact Ent.nil _

theorem prow_rds {As : List HP} {a : Option Addr} {px : List Int} (h : RdsL As a (Q5 px)) (L w : Nat) : RdsL As (sla a L (L + w) 1) (Q5 ((px.drop L).take w)) := by
  have q := h.sla L (L + w) (L + w) 1 (Nat.le_refl _)
  rwa [pxs_sub, Nat.add_sub_cancel_left] at q
theorem rcRow_spec (W : Nat) (H : Int) (a : Option Addr) (px : List Int) (c : Nat) (x y w : Nat) (hc : px.length ≤ c) (hpl : px.length ≤ 1000000) (hi : y * W + x + w ≤ px.length) : Fn Tryz.prog 183 #[.agg #[.int .i64 (W : Int), .int .i64 H, .slice a px.length c], .int .i64 (x : Int), .int .i64 (y : Int), .int .i64 (w : Int)] [] (fun v l => v = .slice (sla a (y * W + x) (y * W + x + w) 1) ((px.drop (y * W + x)).take w).length w ∧ l = []) := by
 have hyw : ((y * W : Nat) : Int) = (y : Int) * (W : Int) := Int.natCast_mul y W
 refine Qk (vs := [.agg #[.int .i64 (W : Int), .int .i64 H, .slice a px.length c], .int .i64 (x : Int), .int .i64 (y : Int), .int .i64 (w : Int)]) Tryz.func183 rfl Tryz.ntmps183 rfl (Qb (Qa (QP rfl rfl rfl ?_)))
 intro g1
 refine Qe rfl rfl (WpL.nil (Qb (Qa (Qd rfl rfl (Qj (o2 := 0) rfl rfl rfl (Qo rfl rfl (by rfl) ?_))))))
 refine Xz rfl rfl rfl (Qt (by omega) (by omega)) ?_
 refine Qd rfl rfl (QE rfl rfl rfl (Qt (by omega) (by omega)) ?_)
 refine Qe rfl rfl (WpL.nil (Qb (Qa (Qj (o2 := 2) rfl rfl rfl (Qo rfl rfl (by rfl) ?_)))))
 refine Qd rfl rfl (Qd rfl rfl (Qd rfl rfl (QE rfl rfl rfl (Qt (by omega) (by omega)) ?_)))
 refine Qd rfl rfl (Qd rfl rfl (QE rfl rfl rfl (Qt (by omega) (by omega)) ?_))
 refine s_sll_lhm (L := (y * W + x)) (H := (y * W + x + w)) (M := (y * W + x + w)) rfl rfl rfl rfl rfl (by omega) (by omega) (by omega) (by omega) (by omega) (by omega) ?_
 rw [Nat.add_sub_cancel_left]
 refine Qe rfl rfl (WpL.nil (Qh ?_))
 apply RetQ.mk
 ·exact (Res.one rfl rfl)
 ·exact ⟨by rw [prow_len (by omega)], rfl⟩
 ·exact Ent.nil _

theorem rcHas_spec (A0 : HP) (W H w h : Nat) (px qx : List Int) (a b : Option Addr) (c d : Nat) (hA : RdsL [A0] a (Q5 px)) (hB : RdsL [A0] b (Q5 qx)) (hW : W ≤ 1000) (hH : H ≤ 1000) (hw : w ≤ 1000) (hh : h ≤ 1000) (hl : px.length = W * H) (hq : qx.length = w * h) (hc : px.length ≤ c) (hd : qx.length ≤ d) (x y : Nat) (hy : y ≤ 1000) : Fn Tryz.prog 150 #[.agg #[.int .i64 (W : Int), .int .i64 (H : Int), .slice a px.length c], .agg #[.int .i64 (w : Int), .int .i64 (h : Int), .slice b qx.length d], .int .i64 (x : Int), .int .i64 (y : Int)] [A0] (fun v l => v = .bool (Q7 px W H qx w h x y) ∧ l = [A0]) := by
 have hWH : W * H ≤ 1000 * 1000 := Nat.mul_le_mul hW hH
 have hwh : w * h ≤ 1000 * 1000 := Nat.mul_le_mul hw hh
 refine Qk (vs := [.agg #[.int .i64 (W : Int), .int .i64 (H : Int), .slice a px.length c], .agg #[.int .i64 (w : Int), .int .i64 (h : Int), .slice b qx.length d], .int .i64 (x : Int), .int .i64 (y : Int)]) Tryz.func150 rfl Tryz.ntmps150 rfl (Qb (Qa (QP rfl rfl rfl ?_)))
 intro gM
 refine QP rfl rfl rfl ?_
 intro gO
 refine Qe rfl rfl (WpL.nil (Qb (Qb (Qa ?_))))
 refine Qz (vs := [_, _, _]) rfl rfl rfl (by rfl) ?_
 refine Qd rfl rfl (Qd rfl rfl (Qj (o2 := 0) rfl rfl rfl (Qo rfl rfl (by rfl) ?_)))
 refine Qj (o2 := 1) rfl rfl rfl (Qo rfl rfl (by rfl) ?_)
 refine Qg rfl rfl (by repeat' constructor) (rcInside_spec W H px.length a c x y w h hW hH) ?_
 rintro _ _ ⟨rfl, rfl⟩
 simp only [Qr]
 refine XY rfl rfl (WpL.nil (Qm rfl (fun h0 => ?_) (fun h0 => ?_)))
 ·refine Qb (Qa (Qe rfl rfl (WpL.nil (Qh ?_))))
  apply RetQ.mk
  ·exact (Res.one rfl rfl)
  ·exact ⟨congrArg Value.bool (decide_eq_false fun q => h0 q.1).symm, rfl⟩
  ·exact Take.ent' (by repeat' constructor)
 ·have hin := Classical.not_not.1 h0
  refine Wp.skip (Qb (Qb (Qa (Qj (o2 := 1) rfl rfl rfl (Qo rfl rfl (by rfl) ?_)))))
  refine Qd rfl rfl (WpL.nil (Wp.block ?_))
  refine Wp.loopD (σ := Nat) (fun k => k ≤ h ∧ Xf px W x y w k = qx.take (k * w)) [8, 9, 21, 22, 23, 24, 25, 26, 27, 28, 29, 30, 31, 32, 33, 34, 35, 36, 37, 38, 39] (fun k => [(21, .int .i64 (k : Int))]) (fun k => [QB gO [.int .i64 (w : Int), .int .i64 (h : Int), .slice b qx.length d] 77, QB gM [.int .i64 (W : Int), .int .i64 (H : Int), .slice a px.length c] 77, A0]) (fun k => h - k) 0 ?_ (by repeat (first | exact FrLe.nil | refine FrLe.cons rfl ?_)) ?_ ?_
  ·exact ⟨Nat.zero_le _, by simp [Xf]⟩
  ·exact Ent.refl _
  ·rintro k ⟨hk, hpk⟩
   refine Qb (Qa (Q6 rfl rfl rfl (WpL.nil (Qb (Qm rfl (fun h2 => ?_) (fun h2 => ?_))))))
   ·have hkh : k < h := by omega
    have hr1 := prow_in hl hin hkh
    have hr2 : k * w + 0 + w ≤ qx.length := by
     have : (k + 1) * w ≤ h * w := Nat.mul_le_mul_right _ hkh
     rw [Nat.add_mul, Nat.one_mul, Nat.mul_comm h w] at this
     omega
    refine Wp.skip (Qb (Wp.block ?_))
    refine Qb (Qa (Qd rfl rfl (Qe rfl rfl (WpL.nil (Qb ?_)))))
    apply QS mixed [⟨24, _, []⟩, ⟨25, _, []⟩, ⟨26, _, []⟩, ⟨27, _, []⟩, ⟨28, _, [2, 3]⟩, ⟨29, _, []⟩, ⟨30, _, [5]⟩, ⟨31, _, [0, 1, 4, 6]⟩, ⟨32, _, []⟩, ⟨33, _, []⟩, ⟨34, _, []⟩, ⟨35, _, [10]⟩, ⟨36, _, [8, 9, 11, 7]⟩, ⟨37, _, [7, 12]⟩, ⟨38, _, [13]⟩] rfl
    ·refine AllObs.mk ?_ ?_
     ·refine Qz (vs := [_, _, _]) rfl rfl rfl (by rfl) ?_
      exact Ql rfl
     refine AllObs.mk ?_ ?_
     ·exact Qd rfl rfl (Ql rfl)
     refine AllObs.mk ?_ ?_
     ·exact Qd rfl rfl (Ql rfl)
     refine AllObs.mk ?_ ?_
     ·exact Qd rfl rfl (Ql rfl)
     refine AllObs.mk ?_ ?_
     ·refine QE rfl rfl rfl (Qt (by omega) (by omega)) ?_
      exact Ql rfl
     refine AllObs.mk ?_ ?_
     ·exact Qj (o2 := 0) rfl rfl rfl (Ql rfl)
     refine AllObs.mk ?_ ?_
     ·refine Qo rfl rfl (by rfl) ?_
      exact Ql rfl
     refine AllObs.mk ?_ ?_
     ·refine Qg rfl rfl (by repeat' constructor) (rcRow_spec W (H : Int) a px c x (y + k) w hc (by omega) hr1) ?_
      rintro _ _ ⟨rfl, rfl⟩
      simp only [Qr]
      exact WpL.nil ⟨rfl, rfl, rfl, by exact Ent.refl _⟩
     refine AllObs.mk ?_ ?_
     ·refine Qz (vs := [_, _, _]) rfl rfl rfl (by rfl) ?_
      exact Ql rfl
     refine AllObs.mk ?_ ?_
     ·exact Qd rfl rfl (Ql rfl)
     refine AllObs.mk ?_ ?_
     ·exact Qj (o2 := 0) rfl rfl rfl (Ql rfl)
     refine AllObs.mk ?_ ?_
     ·refine Qo rfl rfl (by rfl) ?_
      exact Ql rfl
     refine AllObs.mk ?_ ?_
     ·refine Qg rfl rfl (by repeat' constructor) (rcRow_spec w (h : Int) b qx d 0 k w hd (by omega) hr2) ?_
      rintro _ _ ⟨rfl, rfl⟩
      simp only [Qr]
      exact WpL.nil ⟨rfl, rfl, rfl, by exact Ent.refl _⟩
     refine AllObs.mk ?_ ?_
     ·refine Qg rfl rfl (by repeat' constructor) (sEqual_spec [A0] _ _ w w ((px.drop ((y + k) * W + x)).take w) ((qx.drop (k * w + 0)).take w) (prow_rds hA _ _) (prow_rds hB _ _) (by rw [prow_len hr1]; omega)) ?_
      rintro _ _ ⟨rfl, rfl⟩
      simp only [Qr]
      exact WpL.nil ⟨rfl, rfl, rfl, by exact Take.ent' (by repeat' constructor)⟩
     refine AllObs.mk ?_ ?_
     ·exact XY rfl rfl (Ql rfl)
     exact AllObs.nil
    ·refine Qm rfl (fun h3 => ?_) (fun h3 => ?_)
     ·refine Qb (Qa (Qe rfl rfl (WpL.nil (Qh ?_))))
      apply RetQ.mk
      ·exact (Res.one rfl rfl)
      ·exact ⟨congrArg Value.bool (decide_eq_false fun q => h3 (partL_row hl hin hkh q.2)).symm, rfl⟩
      ·exact Take.ent' (by repeat' constructor)
     ·have heq : ((px.drop ((y + k) * W + x)).take w) = ((qx.drop (k * w)).take w) := Classical.not_not.1 h3
      refine Wp.skip (Qa (QE rfl rfl rfl (Qt (by omega) (by omega)) ?_))
      refine Qd rfl rfl (WpL.nil (Qy (k + 1) ?_ ?_ (by ((repeat (first | exact Top.refl | refine Top.push rfl ?_)); done)) (by repeat (first | exact FrLe.nil | refine FrLe.cons rfl ?_)) ?_))
      ·exact ⟨by omega, partL_step hpk heq⟩
      ·omega
      ·exact Ent.refl _
   ·obtain rfl : k = h := by omega
    rw [List.take_of_length_le (by rw [hq, Nat.mul_comm]; exact Nat.le_refl _)] at hpk
    refine QL (Qb (Qa (Qe rfl rfl (WpL.nil (Qh ?_)))))
    apply RetQ.mk
    ·exact (Res.one rfl rfl)
    ·exact ⟨congrArg Value.bool (decide_eq_true ⟨hin, hpk⟩).symm, rfl⟩
    ·exact Take.ent' (by repeat' constructor)

end Go.Proofs.YtggamdlpiejbiaaGreat
