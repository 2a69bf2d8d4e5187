/- Walks and plain laws, a part of the proof of PnmJoins: every input that the law's guards let in, no condition beside. -/
import Derived.Test.YtggamdlpiejbiaaGreatM09
namespace Go.Proofs.YtggamdlpiejbiaaGreat
open Go.RowKit Go.Shelf


theorem tkPut_alt (g : Nat) (most : Int) (s : TS) (bg : Bool) (nx : Value) (c : Int) (hok : Zx most s) (hnx : nx = nxV g s.ph) (hc0 : 0 ≤ c) (hc1 : c ≤ 255) (hm1 : most ≤ 1000000) :
    Fn Tryz.prog 192 #[.pointer (some ⟨g, 0, none⟩), .int .u8 c] [QA g [nx, .int .i64 most, .int .i64 s.n, .bool bg, .int .i64 0, .int .i64 s.e] 265] (fun v l => (∃ s' bg', QV most s c = (s', 0) ∧ Zx most s' ∧ v = .int .i64 0 ∧ l = [QA g [nxV g s'.ph, .int .i64 most, .int .i64 s'.n, .bool bg', .int .i64 0, .int .i64 s'.e] 265]) ∨
      (∃ n' bg' nx', QV most s c = (⟨4, n', 0⟩, 1) ∧ 0 ≤ n' ∧ n' ≤ most ∧ v = .int .i64 1 ∧ l = [QA g [nx', .int .i64 most, .int .i64 n', .bool bg', .int .i64 1, .int .i64 0] 265]) ∨ (∃ e' bg' nx', QV most s c = (⟨5, 0, e'⟩, 2) ∧ (e' = 3 ∨ e' = 4) ∧ v = .int .i64 2 ∧ l = [QA g [nx', .int .i64 most, .int .i64 0, .bool bg', .int .i64 2, .int .i64 e'] 265])) := by
  refine (tkPut_spec g most s bg nx c hok hnx hc0 hc1 hm1).mono fun v l h => ?_
  obtain ⟨s', r, bg', nx', hs, rfl, hn, rfl⟩ := h
  have hcs := tkPut_cases (c := c) hok
  rw [← hs] at hcs
  dsimp only at hcs
  rcases hcs with ⟨rfl, ho⟩ | ⟨rfl, h1, h2, h3, h4⟩ | ⟨rfl, h1, h2, h3⟩
  · obtain rfl := hn rfl
    exact ⟨_, .inl ⟨s', bg', hs.symm, ho, rfl, rfl⟩, Ent.refl _⟩
  · obtain ⟨ph, n, e⟩ := s'
    dsimp only at h1 h2 h3 h4
    subst h1; subst h2
    exact ⟨_, .inr (.inl ⟨n, bg', nx', hs.symm, h3, h4, rfl, rfl⟩), Ent.refl _⟩
  · obtain ⟨ph, n, e⟩ := s'
    dsimp only at h1 h2 h3
    subst h1; subst h2
    exact ⟨_, .inr (.inr ⟨e, bg', nx', hs.symm, h3, rfl, rfl⟩), Ent.refl _⟩

set_option maxHeartbeats 1000000 in
theorem hdNum_0 (g gt : Nat) (K W H M l0 l1 l2 at_ la e : Int) (s : TS) (bg : Bool) (nx : Value) (c : Int) (hc0 : 0 ≤ c) (hc1 : c ≤ 255) (hl : (1 ≤ l0 ∧ l0 ≤ 4096) ∧ (1 ≤ l1 ∧ l1 ≤ 65536) ∧ (1 ≤ l2 ∧ l2 ≤ 65535)) (hnx : nx = nxV gt s.ph) (hok : Zx l0 s)  : Fn Tryz.prog 166 #[.pointer (some ⟨g, 0, none⟩), .int .u8 c] [QA g [.int .i64 K, .int .i64 W, .int .i64 H, .int .i64 M, .int .i64 l0, .int .i64 l1, .int .i64 l2, .int .i64 at_, .int .i64 0, .pointer (some ⟨gt, 0, none⟩), .int .i64 la, .int .i64 e] 234, QA gt [nx, .int .i64 l0, .int .i64 s.n, .bool bg, .int .i64 0, .int .i64 s.e] 265] (fun v l => (∃ s' bg', QV l0 s c = (s', 0) ∧ Zx l0 s' ∧ v = .int .i64 0 ∧ l = [QA g [.int .i64 K, .int .i64 W, .int .i64 H, .int .i64 M, .int .i64 l0, .int .i64 l1, .int .i64 l2, .int .i64 at_, .int .i64 0, .pointer (some ⟨gt, 0, none⟩), .int .i64 la, .int .i64 e] 234, QA gt [nxV gt s'.ph, .int .i64 l0, .int .i64 s'.n, .bool bg', .int .i64 0, .int .i64 s'.e] 265]) ∨ (∃ e' bg' nx', QV l0 s c = (⟨5, 0, e'⟩, 2) ∧ v = .int .i64 2 ∧ l = [QA g [.int .i64 K, .int .i64 W, .int .i64 H, .int .i64 M, .int .i64 l0, .int .i64 l1, .int .i64 l2, .int .i64 at_, .int .i64 0, .pointer (some ⟨gt, 0, none⟩), .int .i64 la, .int .i64 e'] 234, QA gt [nx', .int .i64 l0, .int .i64 0, .bool bg', .int .i64 2, .int .i64 e'] 265]) ∨ (∃ bg' nx', QV l0 s c = (⟨4, 0, 0⟩, 1) ∧ v = .int .i64 2 ∧ l = [QA g [.int .i64 K, .int .i64 W, .int .i64 H, .int .i64 M, .int .i64 l0, .int .i64 l1, .int .i64 l2, .int .i64 at_, .int .i64 0, .pointer (some ⟨gt, 0, none⟩), .int .i64 la, .int .i64 4] 234, QA gt [nx', .int .i64 l0, .int .i64 0, .bool bg', .int .i64 1, .int .i64 0] 265]) ∨ (∃ n', QV l0 s c = (⟨4, n', 0⟩, 1) ∧ 0 < n' ∧ n' ≤ l0 ∧ v = .int .i64 0 ∧ ∃ gt2, l = [QA g [.int .i64 K, .int .i64 n', .int .i64 H, .int .i64 M, .int .i64 l0, .int .i64 l1, .int .i64 l2, .int .i64 at_, .int .i64 1, .pointer (some ⟨gt2, 0, none⟩), .int .i64 la, .int .i64 e] 234, QA gt2 [nxV gt2 0, .int .i64 l1, .int .i64 0, .bool false, .int .i64 0, .int .i64 9] 265])) := by
 refine Qk (vs := [.pointer (some ⟨g, 0, none⟩), .int .u8 c]) Tryz.func166 rfl Tryz.ntmps166 rfl ?_
 refine Qb (Qa (Qe rfl rfl (WpL.nil (Qb (Qa (Qc rfl rfl (Qq rfl rfl (Qj (o2 := 9) rfl rfl rfl (Qo rfl rfl (by rfl) ?_)))))))))
 refine Qc rfl rfl (Qh rfl rfl (by repeat' constructor) (tkPut_alt gt l0 s bg nx c hok hnx hc0 hc1 (by omega)) ?_)
 intro v0 m0 hN0
 rcases hN0 with ⟨s', bg', hT, hok', rfl, rfl⟩ | ⟨n', bg', nx', hT, hn0, hn1, rfl, rfl⟩ | ⟨e', bg', nx', hT, he, rfl, rfl⟩
 ·simp only [Qr]
  refine Qe rfl rfl (WpL.nil (Qb (Qb (Qa (Qc rfl rfl (QN rfl rfl rfl (WpL.nil (QU rfl rfl (Qb (Qa (Qc rfl rfl (Qe rfl rfl ?_))))))))))))
  refine WpL.nil (Qi ?_)
  apply RetQ.mk
  ·exact (Res.one rfl rfl)
  ·exact .inl ⟨s', bg', hT, hok', rfl, rfl⟩
  ·exact Take.ent' (by repeat' constructor)
 ·simp only [Qr]
  refine Qe rfl rfl (WpL.nil (Qb (Qb (Qa (Qc rfl rfl (QN rfl rfl rfl (WpL.nil (Qz rfl (by decide) (Wp.skip (Qb (Qa (Qc rfl rfl ?_))))))))))))
  refine Qq rfl rfl (Qj (o2 := 9) rfl rfl rfl (Qo rfl rfl (by rfl) ?_))
  refine Qh rfl rfl (by repeat' constructor) (X2 gt _ _ _ _ _ _) ?_
  rintro _ _ ⟨rfl, rfl⟩
  simp only [Qr]
  simp only [if_true]
  refine Qc rfl rfl (QH rfl rfl rfl (QH rfl rfl rfl (Qe rfl rfl (Qe rfl rfl (WpL.nil (Qb (Wp.block ?_)))))))
  refine Qb (Qa (Qc rfl rfl (Xn rfl rfl rfl (Qe rfl rfl (WpL.nil (Qz rfl (by decide) (Qb (Qa (Qc rfl rfl (QN rfl rfl rfl (Qe rfl rfl (WpL.nil ?_))))))))))))
  refine Ql rfl (fun hz => ?_) (fun hz => ?_)
  ·subst hz
   refine Qb (Qa (Qc rfl rfl (Qh rfl rfl (by repeat' constructor) (Xw _ _ _ _ _ _ _ _ _ _ _ _ _ _) ?_)))
   rintro _ _ ⟨rfl, rfl⟩
   simp only [Qr]
   refine Qe rfl rfl (WpL.nil (Qi ?_))
   apply RetQ.mk
   ·exact (Res.one rfl rfl)
   ·exact .inr (.inr (.inl ⟨bg', nx', hT, rfl, rfl⟩))
   ·exact Ent.refl _
  ·refine Wp.skip (Qb ?_)
   apply X8 (fB := [QA g [.int .i64 K, .int .i64 W, .int .i64 H, .int .i64 M, .int .i64 l0, .int .i64 l1, .int .i64 l2, .int .i64 at_, .int .i64 0, .pointer (some ⟨gt, 0, none⟩), .int .i64 la, .int .i64 e] 234]) [0, 1, 2, 3, 4, 5, 6, 7, 8, 9, 10, 11, 13, 14, 15, 16, 19, 12, 17, 18, 20, 21] [36, 37, 38, 39, 40, 41, 42, 43, 44, 45, 46, 47, 49, 50, 51, 52, 55, 48, 53, 54, 56] 22 mixed (by kernel_rfl) [(17, false), (3, false)] (by kernel_rfl) (by kernel_rfl) (by kernel_rfl)
   apply Xe [⟨0, 36, _, [], false⟩, ⟨1, 37, _, [0], false⟩, ⟨2, 38, _, [1], false⟩, ⟨3, 39, _, [2], false⟩, ⟨4, 40, _, [], false⟩, ⟨5, 41, _, [4], false⟩, ⟨6, 42, _, [5], false⟩, ⟨7, 43, _, [6], false⟩, ⟨8, 44, _, [], false⟩, ⟨9, 45, _, [8], false⟩, ⟨10, 46, _, [9], false⟩, ⟨11, 47, _, [10], false⟩, ⟨12, 49, _, [], true⟩, ⟨13, 50, _, [12], true⟩, ⟨14, 51, _, [13], true⟩, ⟨15, 52, _, [14], true⟩, ⟨16, 55, _, [], true⟩] [] [0, 1, 2, 3, 4, 5, 6, 7, 8, 9, 10, 11] [53, 54, 56] [53, 54, 56, 49, 50, 51, 52, 55] (.inl ⟨_, by repeat' constructor⟩) rfl rfl rfl (by kernel_rfl) rfl (by kernel_rfl) rfl rfl
   ·refine Qp 0 [] rfl rfl rfl rfl (by kernel_rfl) rfl ?_ ?_
    ·exact Qc rfl rfl (Qm rfl)
    refine Qp 1 [0] rfl rfl rfl rfl (by kernel_rfl) rfl ?_ ?_
    ·exact Qq rfl rfl (Qm rfl)
    refine Qp 2 [1] rfl rfl rfl rfl (by kernel_rfl) rfl ?_ ?_
    ·exact Qj (o2 := 0) rfl rfl rfl (Qm rfl)
    refine Qp 3 [2] rfl rfl rfl rfl (by kernel_rfl) rfl ?_ ?_
    ·exact Qj (o2 := 1) rfl rfl rfl (Qm rfl)
    refine Qp 4 [] rfl rfl rfl rfl (by kernel_rfl) rfl ?_ ?_
    ·exact Qc rfl rfl (Qm rfl)
    refine Qp 5 [4] rfl rfl rfl rfl (by kernel_rfl) rfl ?_ ?_
    ·exact Qq rfl rfl (Qm rfl)
    refine Qp 6 [5] rfl rfl rfl rfl (by kernel_rfl) rfl ?_ ?_
    ·exact Qj (o2 := 0) rfl rfl rfl (Qm rfl)
    refine Qp 7 [6] rfl rfl rfl rfl (by kernel_rfl) rfl ?_ ?_
    ·exact Qj (o2 := 2) rfl rfl rfl (Qm rfl)
    refine Qp 8 [] rfl rfl rfl rfl (by kernel_rfl) rfl ?_ ?_
    ·exact Qc rfl rfl (Qm rfl)
    refine Qp 9 [8] rfl rfl rfl rfl (by kernel_rfl) rfl ?_ ?_
    ·exact Qq rfl rfl (Qm rfl)
    refine Qp 10 [9] rfl rfl rfl rfl (by kernel_rfl) rfl ?_ ?_
    ·exact Qj (o2 := 0) rfl rfl rfl (Qm rfl)
    refine Qp 11 [10] rfl rfl rfl rfl (by kernel_rfl) rfl ?_ ?_
    ·exact Qj (o2 := 3) rfl rfl rfl (Qm rfl)
    refine Qw 12 [] rfl rfl rfl rfl (by kernel_rfl) rfl ?_ ?_
    ·exact Qc rfl rfl (Qm rfl)
    refine Qw 13 [12] rfl rfl rfl rfl (by kernel_rfl) rfl ?_ ?_
    ·exact Qq rfl rfl (Qm rfl)
    refine Qw 14 [13] rfl rfl rfl rfl (by kernel_rfl) rfl ?_ ?_
    ·exact Qj (o2 := 8) rfl rfl rfl (Qm rfl)
    refine Qw 15 [14] rfl rfl rfl rfl (by kernel_rfl) rfl ?_ ?_
    ·refine Qo rfl rfl (by rfl) ?_
     exact Qm rfl
    refine Qw 16 [] rfl rfl rfl rfl (by kernel_rfl) rfl ?_ ?_
    ·exact Qc rfl rfl (Qm rfl)
    exact AllF.nil
   ·refine s_bs3 rfl rfl rfl rfl rfl rfl rfl rfl ?_
    intro g1
    refine WpL.nil ⟨rfl, rfl, ?_⟩
    apply Xe [⟨18, 53, _, [15, 17], false⟩, ⟨19, 54, _, [18], false⟩, ⟨20, 56, _, [0, 1, 2, 3, 4, 5, 6, 7, 8, 9, 10, 11, 12, 13, 14, 15, 16, 17, 18, 19], false⟩] [12, 13, 14, 15, 16] [12, 13, 14, 15, 16, 18, 19, 20] [] [] (.inl ⟨_, by repeat' constructor⟩) rfl rfl rfl (by kernel_rfl) rfl (by kernel_rfl) rfl rfl
    ·refine Qp 18 [15, 17] rfl rfl rfl rfl (by kernel_rfl) rfl ?_ ?_
     ·refine Q4 0 rfl rfl rfl (RdsL.blk (cs := [.pointer (some ⟨g, 1, none⟩), .pointer (some ⟨g, 2, none⟩), .pointer (some ⟨g, 3, none⟩)]) (xs := [.pointer (some ⟨g, 1, none⟩), .pointer (some ⟨g, 2, none⟩), .pointer (some ⟨g, 3, none⟩)]) (by rfl)) (by exact Take.ent' (by repeat' constructor)) rfl (by decide) (by exact (by decide : 0 < 3)) ?_
      exact Qm rfl
     refine Qp 19 [18] rfl rfl rfl rfl (by kernel_rfl) rfl ?_ ?_
     ·refine Q5 rfl rfl (RdsL.blk (cs := [.pointer (some ⟨g, 1, none⟩), .pointer (some ⟨g, 2, none⟩), .pointer (some ⟨g, 3, none⟩)]) (xs := [.pointer (some ⟨g, 1, none⟩), .pointer (some ⟨g, 2, none⟩), .pointer (some ⟨g, 3, none⟩)]) (by rfl)) (by exact Take.ent' (by repeat' constructor)) (rfl) ?_
      exact Qm rfl
     refine Qp 20 [0, 1, 2, 3, 4, 5, 6, 7, 8, 9, 10, 11, 12, 13, 14, 15, 16, 17, 18, 19] rfl rfl rfl rfl (by kernel_rfl) rfl ?_ ?_
     ·exact Qq rfl rfl (Qm rfl)
     exact AllF.nil
    ·refine Q3 rfl rfl rfl (WpL.nil ⟨rfl, rfl, ?_⟩)
     apply X7 [] 22 (by kernel_rfl) (.inr rfl) rfl rfl
     ·exact AllF.nil
     ·refine QO (gr := [(0, _)]) (FrLe.cons rfl FrLe.nil) ?_
      refine Qb (Qa (Qc rfl rfl (Qq rfl rfl (Qj (o2 := 8) rfl rfl rfl (Qo rfl rfl (by rfl) ?_)))))
      refine QD rfl rfl rfl (Qu (by omega) (by omega)) ?_
      rw [show (0 : Int) + 1 = 1 from rfl]
      refine Qq rfl rfl (Qj (o2 := 8) rfl rfl rfl (Q3 rfl rfl rfl (WpL.nil (Qb (Qb (Qa (Qc rfl rfl (Qq rfl rfl (Qj (o2 := 8) rfl rfl rfl (Qo rfl rfl (by rfl) ?_))))))))))
      refine QN rfl rfl rfl (Qc rfl rfl (Qy (dj := 69) rfl (by decide) ?_))
      refine Qd rfl rfl rfl (by decide) (Qd rfl rfl rfl (by decide) (Qd rfl rfl rfl (by decide) (Qd rfl rfl rfl (by decide) (Qd rfl rfl rfl (by decide) (Qs rfl rfl rfl (WpL.nil (QZ rfl (Wp.skip (Qb (Qb (Qa (Qc rfl rfl ?_))))))))))))
      refine Qq rfl rfl (Qj (o2 := 8) rfl rfl rfl (Qo rfl rfl (by rfl) ?_))
      refine Q7 rfl rfl rfl (WpL.nil (QO (gr := [(0, _), (91, _)]) (FrLe.cons rfl (FrLe.cons rfl FrLe.nil)) ?_))
      refine QU rfl (by decide) (Qb ?_)
      apply Xs (fB := []) mixed [(10, false), (2, false)] (by kernel_rfl)
      apply Xk [⟨0, 92, _, [], true⟩, ⟨1, 93, _, [], false⟩, ⟨2, 94, _, [], false⟩, ⟨3, 95, _, [2], false⟩, ⟨4, 96, _, [3], false⟩, ⟨5, 97, _, [4], false⟩, ⟨6, 98, _, [1], false⟩, ⟨7, 99, _, [6], false⟩, ⟨8, 100, _, [5, 7], false⟩, ⟨9, 101, _, [8], false⟩] [] [1, 2, 3, 4, 5, 6, 7, 8, 9] [103, 104, 92] (.inl ⟨_, .nil⟩) rfl rfl rfl (by kernel_rfl) rfl rfl rfl
      ·refine XQ rfl rfl rfl rfl ?_ ?_
       ·exact Qc rfl rfl (Qm rfl)
       refine AllF.cons rfl rfl rfl rfl ?_ ?_
       ·exact Qc rfl rfl (Qm rfl)
       refine AllF.cons rfl rfl rfl rfl ?_ ?_
       ·exact Qc rfl rfl (Qm rfl)
       refine AllF.cons rfl rfl rfl rfl ?_ ?_
       ·exact Qq rfl rfl (Qm rfl)
       refine AllF.cons rfl rfl rfl rfl ?_ ?_
       ·exact Qj (o2 := 8) rfl rfl rfl (Qm rfl)
       refine AllF.cons rfl rfl rfl rfl ?_ ?_
       ·refine Qo rfl rfl (by rfl) ?_
        exact Qm rfl
       refine AllF.cons rfl rfl rfl rfl ?_ ?_
       ·exact Qq rfl rfl (Qm rfl)
       refine AllF.cons rfl rfl rfl rfl ?_ ?_
       ·exact Qj (o2 := 4) rfl rfl rfl (Qm rfl)
       refine AllF.cons rfl rfl rfl rfl ?_ ?_
       ·exact s_ixarS (o2 := 5) 1 rfl rfl rfl rfl (by decide) rfl (Qm rfl)
       refine AllF.cons rfl rfl rfl rfl ?_ ?_
       ·refine Qo rfl rfl (by rfl) ?_
        exact Qm rfl
       exact AllF.nil
      ·refine Qh rfl rfl (by repeat' constructor) (Vk _) ?_
       rintro _ _ ⟨gT, rfl, rfl⟩
       simp only [Qr]
       refine WpL.nil ⟨rfl, rfl, ?_⟩
       apply Xk [⟨11, 103, _, [0, 1, 2, 3, 4, 5, 6, 7, 8, 9, 10], false⟩, ⟨12, 104, _, [0, 1, 2, 3, 4, 5, 6, 7, 8, 9, 10, 11], false⟩] [0] [0, 11, 12] [] (.inl ⟨_, .nil⟩) rfl rfl rfl (by kernel_rfl) rfl rfl rfl
       ·refine AllF.cons rfl rfl rfl rfl ?_ ?_
        ·exact Qq rfl rfl (Qm rfl)
        refine AllF.cons rfl rfl rfl rfl ?_ ?_
        ·exact Qj (o2 := 9) rfl rfl rfl (Qm rfl)
        exact AllF.nil
       ·refine Q3 rfl rfl rfl (WpL.nil ⟨rfl, rfl, ?_⟩)
        apply GoR.nil [] (.inr rfl) rfl rfl
        ·exact AllF.nil
        ·refine Qb (Qa (Qe rfl rfl (WpL.nil (Qi ?_))))
         apply RetQ.mk
         ·exact (Res.one rfl rfl)
         ·refine .inr (.inr (.inr ⟨n', hT, by omega, hn1, rfl, gT, rfl⟩))
         ·exact Take.ent' (by repeat' constructor)
 ·simp only [Qr]
  refine Qe rfl rfl (WpL.nil (Qb (Qb (Qa (Qc rfl rfl (QN rfl rfl rfl (WpL.nil (Qz rfl (by decide) (Wp.skip (Qb (Qa (Qc rfl rfl ?_))))))))))))
  refine Qq rfl rfl (Qj (o2 := 9) rfl rfl rfl (Qo rfl rfl (by rfl) ?_))
  refine Qh rfl rfl (by repeat' constructor) (X2 gt _ _ _ _ _ _) ?_
  rintro _ _ ⟨rfl, rfl⟩
  simp only [Qr]
  rw [if_neg (by decide), if_neg (by decide)]
  refine Qc rfl rfl (QH rfl rfl rfl (QH rfl rfl rfl (Qe rfl rfl (Qe rfl rfl (WpL.nil (Qb (Wp.block ?_)))))))
  refine Qb (Qa (Qc rfl rfl (Xn rfl rfl rfl (Qe rfl rfl (WpL.nil (QU rfl (by omega) ?_))))))
  refine Qb (Qa (Qc rfl rfl (Qc rfl rfl (Qh rfl rfl (by repeat' constructor) (Xw _ _ _ _ _ _ _ _ _ _ _ _ _ _) ?_))))
  rintro _ _ ⟨rfl, rfl⟩
  simp only [Qr]
  refine Qe rfl rfl (WpL.nil (Qi ?_))
  apply RetQ.mk
  ·exact (Res.one rfl rfl)
  ·exact .inr (.inl ⟨e', bg', nx', hT, rfl, rfl⟩)
  ·exact Ent.refl _

set_option maxHeartbeats 1000000 in
theorem hdNum_1b (g gt : Nat) (K W H M l0 l1 l2 at_ la e : Int) (s : TS) (bg : Bool) (nx : Value) (c : Int) (hc0 : 0 ≤ c) (hc1 : c ≤ 255) (hl : (1 ≤ l0 ∧ l0 ≤ 4096) ∧ (1 ≤ l1 ∧ l1 ≤ 65536) ∧ (1 ≤ l2 ∧ l2 ≤ 65535)) (hnx : nx = nxV gt s.ph) (hok : Zx l1 s) (hbk : K = 1 ∨ K = 4) : Fn Tryz.prog 166 #[.pointer (some ⟨g, 0, none⟩), .int .u8 c] [QA g [.int .i64 K, .int .i64 W, .int .i64 H, .int .i64 M, .int .i64 l0, .int .i64 l1, .int .i64 l2, .int .i64 at_, .int .i64 1, .pointer (some ⟨gt, 0, none⟩), .int .i64 la, .int .i64 e] 234, QA gt [nx, .int .i64 l1, .int .i64 s.n, .bool bg, .int .i64 0, .int .i64 s.e] 265] (fun v l => (∃ s' bg', QV l1 s c = (s', 0) ∧ Zx l1 s' ∧ v = .int .i64 0 ∧ l = [QA g [.int .i64 K, .int .i64 W, .int .i64 H, .int .i64 M, .int .i64 l0, .int .i64 l1, .int .i64 l2, .int .i64 at_, .int .i64 1, .pointer (some ⟨gt, 0, none⟩), .int .i64 la, .int .i64 e] 234, QA gt [nxV gt s'.ph, .int .i64 l1, .int .i64 s'.n, .bool bg', .int .i64 0, .int .i64 s'.e] 265]) ∨ (∃ e' bg' nx', QV l1 s c = (⟨5, 0, e'⟩, 2) ∧ v = .int .i64 2 ∧ l = [QA g [.int .i64 K, .int .i64 W, .int .i64 H, .int .i64 M, .int .i64 l0, .int .i64 l1, .int .i64 l2, .int .i64 at_, .int .i64 1, .pointer (some ⟨gt, 0, none⟩), .int .i64 la, .int .i64 e'] 234, QA gt [nx', .int .i64 l1, .int .i64 0, .bool bg', .int .i64 2, .int .i64 e'] 265]) ∨ (∃ bg' nx', QV l1 s c = (⟨4, 0, 0⟩, 1) ∧ v = .int .i64 2 ∧ l = [QA g [.int .i64 K, .int .i64 W, .int .i64 H, .int .i64 M, .int .i64 l0, .int .i64 l1, .int .i64 l2, .int .i64 at_, .int .i64 1, .pointer (some ⟨gt, 0, none⟩), .int .i64 la, .int .i64 4] 234, QA gt [nx', .int .i64 l1, .int .i64 0, .bool bg', .int .i64 1, .int .i64 0] 265]) ∨ (∃ n', QV l1 s c = (⟨4, n', 0⟩, 1) ∧ 0 < n' ∧ n' ≤ l1 ∧ v = .int .i64 1 ∧ ∃ bg' nx', l = [QA g [.int .i64 K, .int .i64 W, .int .i64 n', .int .i64 1, .int .i64 l0, .int .i64 l1, .int .i64 l2, .int .i64 at_, .int .i64 3, .pointer (some ⟨gt, 0, none⟩), .int .i64 la, .int .i64 0] 234, QA gt [nx', .int .i64 l1, .int .i64 n', .bool bg', .int .i64 1, .int .i64 0] 265])) := by
 refine Qk (vs := [.pointer (some ⟨g, 0, none⟩), .int .u8 c]) Tryz.func166 rfl Tryz.ntmps166 rfl ?_
 refine Qb (Qa (Qe rfl rfl (WpL.nil (Qb (Qa (Qc rfl rfl (Qq rfl rfl (Qj (o2 := 9) rfl rfl rfl (Qo rfl rfl (by rfl) ?_)))))))))
 refine Qc rfl rfl (Qh rfl rfl (by repeat' constructor) (tkPut_alt gt l1 s bg nx c hok hnx hc0 hc1 (by omega)) ?_)
 intro v0 m0 hN0
 rcases hN0 with ⟨s', bg', hT, hok', rfl, rfl⟩ | ⟨n', bg', nx', hT, hn0, hn1, rfl, rfl⟩ | ⟨e', bg', nx', hT, he, rfl, rfl⟩
 ·simp only [Qr]
  refine Qe rfl rfl (WpL.nil (Qb (Qb (Qa (Qc rfl rfl (QN rfl rfl rfl (WpL.nil (QU rfl rfl (Qb (Qa (Qc rfl rfl (Qe rfl rfl ?_))))))))))))
  refine WpL.nil (Qi ?_)
  apply RetQ.mk
  ·exact (Res.one rfl rfl)
  ·exact .inl ⟨s', bg', hT, hok', rfl, rfl⟩
  ·exact Take.ent' (by repeat' constructor)
 ·simp only [Qr]
  refine Qe rfl rfl (WpL.nil (Qb (Qb (Qa (Qc rfl rfl (QN rfl rfl rfl (WpL.nil (Qz rfl (by decide) (Wp.skip (Qb (Qa (Qc rfl rfl ?_))))))))))))
  refine Qq rfl rfl (Qj (o2 := 9) rfl rfl rfl (Qo rfl rfl (by rfl) ?_))
  refine Qh rfl rfl (by repeat' constructor) (X2 gt _ _ _ _ _ _) ?_
  rintro _ _ ⟨rfl, rfl⟩
  simp only [Qr]
  simp only [if_true]
  refine Qc rfl rfl (QH rfl rfl rfl (QH rfl rfl rfl (Qe rfl rfl (Qe rfl rfl (WpL.nil (Qb (Wp.block ?_)))))))
  refine Qb (Qa (Qc rfl rfl (Xn rfl rfl rfl (Qe rfl rfl (WpL.nil (Qz rfl (by decide) (Qb (Qa (Qc rfl rfl (QN rfl rfl rfl (Qe rfl rfl (WpL.nil ?_))))))))))))
  refine Ql rfl (fun hz => ?_) (fun hz => ?_)
  ·subst hz
   refine Qb (Qa (Qc rfl rfl (Qh rfl rfl (by repeat' constructor) (Xw _ _ _ _ _ _ _ _ _ _ _ _ _ _) ?_)))
   rintro _ _ ⟨rfl, rfl⟩
   simp only [Qr]
   refine Qe rfl rfl (WpL.nil (Qi ?_))
   apply RetQ.mk
   ·exact (Res.one rfl rfl)
   ·exact .inr (.inr (.inl ⟨bg', nx', hT, rfl, rfl⟩))
   ·exact Ent.refl _
  ·refine Wp.skip (Qb ?_)
   apply X8 (fB := [QA g [.int .i64 K, .int .i64 W, .int .i64 H, .int .i64 M, .int .i64 l0, .int .i64 l1, .int .i64 l2, .int .i64 at_, .int .i64 1, .pointer (some ⟨gt, 0, none⟩), .int .i64 la, .int .i64 e] 234]) [0, 1, 2, 3, 4, 5, 6, 7, 8, 9, 10, 11, 13, 14, 15, 16, 19, 12, 17, 18, 20, 21] [36, 37, 38, 39, 40, 41, 42, 43, 44, 45, 46, 47, 49, 50, 51, 52, 55, 48, 53, 54, 56] 22 mixed (by kernel_rfl) [(17, false), (3, false)] (by kernel_rfl) (by kernel_rfl) (by kernel_rfl)
   apply Xe [⟨0, 36, _, [], false⟩, ⟨1, 37, _, [0], false⟩, ⟨2, 38, _, [1], false⟩, ⟨3, 39, _, [2], false⟩, ⟨4, 40, _, [], false⟩, ⟨5, 41, _, [4], false⟩, ⟨6, 42, _, [5], false⟩, ⟨7, 43, _, [6], false⟩, ⟨8, 44, _, [], false⟩, ⟨9, 45, _, [8], false⟩, ⟨10, 46, _, [9], false⟩, ⟨11, 47, _, [10], false⟩, ⟨12, 49, _, [], true⟩, ⟨13, 50, _, [12], true⟩, ⟨14, 51, _, [13], true⟩, ⟨15, 52, _, [14], true⟩, ⟨16, 55, _, [], true⟩] [] [0, 1, 2, 3, 4, 5, 6, 7, 8, 9, 10, 11] [53, 54, 56] [53, 54, 56, 49, 50, 51, 52, 55] (.inl ⟨_, by repeat' constructor⟩) rfl rfl rfl (by kernel_rfl) rfl (by kernel_rfl) rfl rfl
   ·refine Qp 0 [] rfl rfl rfl rfl (by kernel_rfl) rfl ?_ ?_
    ·exact Qc rfl rfl (Qm rfl)
    refine Qp 1 [0] rfl rfl rfl rfl (by kernel_rfl) rfl ?_ ?_
    ·exact Qq rfl rfl (Qm rfl)
    refine Qp 2 [1] rfl rfl rfl rfl (by kernel_rfl) rfl ?_ ?_
    ·exact Qj (o2 := 0) rfl rfl rfl (Qm rfl)
    refine Qp 3 [2] rfl rfl rfl rfl (by kernel_rfl) rfl ?_ ?_
    ·exact Qj (o2 := 1) rfl rfl rfl (Qm rfl)
    refine Qp 4 [] rfl rfl rfl rfl (by kernel_rfl) rfl ?_ ?_
    ·exact Qc rfl rfl (Qm rfl)
    refine Qp 5 [4] rfl rfl rfl rfl (by kernel_rfl) rfl ?_ ?_
    ·exact Qq rfl rfl (Qm rfl)
    refine Qp 6 [5] rfl rfl rfl rfl (by kernel_rfl) rfl ?_ ?_
    ·exact Qj (o2 := 0) rfl rfl rfl (Qm rfl)
    refine Qp 7 [6] rfl rfl rfl rfl (by kernel_rfl) rfl ?_ ?_
    ·exact Qj (o2 := 2) rfl rfl rfl (Qm rfl)
    refine Qp 8 [] rfl rfl rfl rfl (by kernel_rfl) rfl ?_ ?_
    ·exact Qc rfl rfl (Qm rfl)
    refine Qp 9 [8] rfl rfl rfl rfl (by kernel_rfl) rfl ?_ ?_
    ·exact Qq rfl rfl (Qm rfl)
    refine Qp 10 [9] rfl rfl rfl rfl (by kernel_rfl) rfl ?_ ?_
    ·exact Qj (o2 := 0) rfl rfl rfl (Qm rfl)
    refine Qp 11 [10] rfl rfl rfl rfl (by kernel_rfl) rfl ?_ ?_
    ·exact Qj (o2 := 3) rfl rfl rfl (Qm rfl)
    refine Qw 12 [] rfl rfl rfl rfl (by kernel_rfl) rfl ?_ ?_
    ·exact Qc rfl rfl (Qm rfl)
    refine Qw 13 [12] rfl rfl rfl rfl (by kernel_rfl) rfl ?_ ?_
    ·exact Qq rfl rfl (Qm rfl)
    refine Qw 14 [13] rfl rfl rfl rfl (by kernel_rfl) rfl ?_ ?_
    ·exact Qj (o2 := 8) rfl rfl rfl (Qm rfl)
    refine Qw 15 [14] rfl rfl rfl rfl (by kernel_rfl) rfl ?_ ?_
    ·refine Qo rfl rfl (by rfl) ?_
     exact Qm rfl
    refine Qw 16 [] rfl rfl rfl rfl (by kernel_rfl) rfl ?_ ?_
    ·exact Qc rfl rfl (Qm rfl)
    exact AllF.nil
   ·refine s_bs3 rfl rfl rfl rfl rfl rfl rfl rfl ?_
    intro g1
    refine WpL.nil ⟨rfl, rfl, ?_⟩
    apply Xe [⟨18, 53, _, [15, 17], false⟩, ⟨19, 54, _, [18], false⟩, ⟨20, 56, _, [0, 1, 2, 3, 4, 5, 6, 7, 8, 9, 10, 11, 12, 13, 14, 15, 16, 17, 18, 19], false⟩] [12, 13, 14, 15, 16] [12, 13, 14, 15, 16, 18, 19, 20] [] [] (.inl ⟨_, by repeat' constructor⟩) rfl rfl rfl (by kernel_rfl) rfl (by kernel_rfl) rfl rfl
    ·refine Qp 18 [15, 17] rfl rfl rfl rfl (by kernel_rfl) rfl ?_ ?_
     ·refine Q4 1 rfl rfl rfl (RdsL.blk (cs := [.pointer (some ⟨g, 1, none⟩), .pointer (some ⟨g, 2, none⟩), .pointer (some ⟨g, 3, none⟩)]) (xs := [.pointer (some ⟨g, 1, none⟩), .pointer (some ⟨g, 2, none⟩), .pointer (some ⟨g, 3, none⟩)]) (by rfl)) (by exact Take.ent' (by repeat' constructor)) rfl (by decide) (by exact (by decide : 1 < 3)) ?_
      exact Qm rfl
     refine Qp 19 [18] rfl rfl rfl rfl (by kernel_rfl) rfl ?_ ?_
     ·refine Q5 rfl rfl (RdsL.blk (cs := [.pointer (some ⟨g, 1, none⟩), .pointer (some ⟨g, 2, none⟩), .pointer (some ⟨g, 3, none⟩)]) (xs := [.pointer (some ⟨g, 1, none⟩), .pointer (some ⟨g, 2, none⟩), .pointer (some ⟨g, 3, none⟩)]) (by rfl)) (by exact Take.ent' (by repeat' constructor)) (rfl) ?_
      exact Qm rfl
     refine Qp 20 [0, 1, 2, 3, 4, 5, 6, 7, 8, 9, 10, 11, 12, 13, 14, 15, 16, 17, 18, 19] rfl rfl rfl rfl (by kernel_rfl) rfl ?_ ?_
     ·exact Qq rfl rfl (Qm rfl)
     exact AllF.nil
    ·refine Q3 rfl rfl rfl (WpL.nil ⟨rfl, rfl, ?_⟩)
     apply X7 [] 22 (by kernel_rfl) (.inr rfl) rfl rfl
     ·exact AllF.nil
     ·refine QO (gr := [(0, _)]) (FrLe.cons rfl FrLe.nil) ?_
      refine Qb (Qa (Qc rfl rfl (Qq rfl rfl (Qj (o2 := 8) rfl rfl rfl (Qo rfl rfl (by rfl) ?_)))))
      refine QD rfl rfl rfl (Qu (by omega) (by omega)) ?_
      rw [show (1 : Int) + 1 = 2 from rfl]
      refine Qq rfl rfl (Qj (o2 := 8) rfl rfl rfl (Q3 rfl rfl rfl (WpL.nil (Qb (Qb (Qa (Qc rfl rfl (Qq rfl rfl (Qj (o2 := 8) rfl rfl rfl (Qo rfl rfl (by rfl) ?_))))))))))
      refine QN rfl rfl rfl (Qc rfl rfl (Qx (dj := 69) rfl rfl ?_))
      refine Qf rfl rfl (Qc rfl rfl (Qf rfl rfl (Qq rfl rfl (Qf rfl rfl (Qj (o2 := 0) rfl rfl rfl (Qf rfl rfl ?_))))))
      refine QI (vs := [_, _, _, _]) rfl rfl rfl (by rfl) ?_
      refine Qf rfl rfl (Qh rfl rfl (by repeat' constructor) (bits_spec _ _ _ _) ?_)
      rintro _ _ ⟨rfl, rfl⟩
      simp only [Qr]
      refine Qt rfl rfl rfl (WpL.nil (QU rfl hbk (Qb (Qa (Qc rfl rfl (Qq rfl rfl (Qj (o2 := 0) rfl rfl rfl (Qj (o2 := 3) rfl rfl rfl (Q3 rfl rfl rfl (WpL.nil (Qa (Qc rfl rfl ?_))))))))))))
      refine Qq rfl rfl (Qj (o2 := 8) rfl rfl rfl (Qo rfl rfl (by rfl) ?_))
      refine QD rfl rfl rfl (Qu (by omega) (by omega)) ?_
      rw [show (2 : Int) + 1 = 3 from rfl]
      refine Qq rfl rfl (Qj (o2 := 8) rfl rfl rfl (Q3 rfl rfl rfl (WpL.nil (Qb (Qb (Qa (Qc rfl rfl (Qq rfl rfl (Qj (o2 := 8) rfl rfl rfl (Qo rfl rfl (by rfl) ?_))))))))))
      refine Q7 rfl rfl rfl (WpL.nil (QO (gr := [(0, _), (91, _)]) (FrLe.cons rfl (FrLe.cons rfl FrLe.nil)) ?_))
      refine Qz rfl (by decide) (Wp.skip (Qb (Qa (Qc rfl rfl (Qq rfl rfl (Qj (o2 := 11) rfl rfl rfl (Q3 rfl rfl rfl (WpL.nil (Qb (Qa (Qe rfl rfl (WpL.nil ?_))))))))))))
      refine Qi ?_
      apply RetQ.mk
      ·exact (Res.one rfl rfl)
      ·exact .inr (.inr (.inr ⟨n', hT, by omega, hn1, rfl, bg', nx', rfl⟩))
      ·exact Take.ent' (by repeat' constructor)
 ·simp only [Qr]
  refine Qe rfl rfl (WpL.nil (Qb (Qb (Qa (Qc rfl rfl (QN rfl rfl rfl (WpL.nil (Qz rfl (by decide) (Wp.skip (Qb (Qa (Qc rfl rfl ?_))))))))))))
  refine Qq rfl rfl (Qj (o2 := 9) rfl rfl rfl (Qo rfl rfl (by rfl) ?_))
  refine Qh rfl rfl (by repeat' constructor) (X2 gt _ _ _ _ _ _) ?_
  rintro _ _ ⟨rfl, rfl⟩
  simp only [Qr]
  rw [if_neg (by decide), if_neg (by decide)]
  refine Qc rfl rfl (QH rfl rfl rfl (QH rfl rfl rfl (Qe rfl rfl (Qe rfl rfl (WpL.nil (Qb (Wp.block ?_)))))))
  refine Qb (Qa (Qc rfl rfl (Xn rfl rfl rfl (Qe rfl rfl (WpL.nil (QU rfl (by omega) ?_))))))
  refine Qb (Qa (Qc rfl rfl (Qc rfl rfl (Qh rfl rfl (by repeat' constructor) (Xw _ _ _ _ _ _ _ _ _ _ _ _ _ _) ?_))))
  rintro _ _ ⟨rfl, rfl⟩
  simp only [Qr]
  refine Qe rfl rfl (WpL.nil (Qi ?_))
  apply RetQ.mk
  ·exact (Res.one rfl rfl)
  ·exact .inr (.inl ⟨e', bg', nx', hT, rfl, rfl⟩)
  ·exact Ent.refl _

set_option maxHeartbeats 1000000 in
theorem hdNum_1n (g gt : Nat) (K W H M l0 l1 l2 at_ la e : Int) (s : TS) (bg : Bool) (nx : Value) (c : Int) (hc0 : 0 ≤ c) (hc1 : c ≤ 255) (hl : (1 ≤ l0 ∧ l0 ≤ 4096) ∧ (1 ≤ l1 ∧ l1 ≤ 65536) ∧ (1 ≤ l2 ∧ l2 ≤ 65535)) (hnx : nx = nxV gt s.ph) (hok : Zx l1 s) (hbk : ¬ (K = 1 ∨ K = 4)) : Fn Tryz.prog 166 #[.pointer (some ⟨g, 0, none⟩), .int .u8 c] [QA g [.int .i64 K, .int .i64 W, .int .i64 H, .int .i64 M, .int .i64 l0, .int .i64 l1, .int .i64 l2, .int .i64 at_, .int .i64 1, .pointer (some ⟨gt, 0, none⟩), .int .i64 la, .int .i64 e] 234, QA gt [nx, .int .i64 l1, .int .i64 s.n, .bool bg, .int .i64 0, .int .i64 s.e] 265] (fun v l => (∃ s' bg', QV l1 s c = (s', 0) ∧ Zx l1 s' ∧ v = .int .i64 0 ∧ l = [QA g [.int .i64 K, .int .i64 W, .int .i64 H, .int .i64 M, .int .i64 l0, .int .i64 l1, .int .i64 l2, .int .i64 at_, .int .i64 1, .pointer (some ⟨gt, 0, none⟩), .int .i64 la, .int .i64 e] 234, QA gt [nxV gt s'.ph, .int .i64 l1, .int .i64 s'.n, .bool bg', .int .i64 0, .int .i64 s'.e] 265]) ∨ (∃ e' bg' nx', QV l1 s c = (⟨5, 0, e'⟩, 2) ∧ v = .int .i64 2 ∧ l = [QA g [.int .i64 K, .int .i64 W, .int .i64 H, .int .i64 M, .int .i64 l0, .int .i64 l1, .int .i64 l2, .int .i64 at_, .int .i64 1, .pointer (some ⟨gt, 0, none⟩), .int .i64 la, .int .i64 e'] 234, QA gt [nx', .int .i64 l1, .int .i64 0, .bool bg', .int .i64 2, .int .i64 e'] 265]) ∨ (∃ bg' nx', QV l1 s c = (⟨4, 0, 0⟩, 1) ∧ v = .int .i64 2 ∧ l = [QA g [.int .i64 K, .int .i64 W, .int .i64 H, .int .i64 M, .int .i64 l0, .int .i64 l1, .int .i64 l2, .int .i64 at_, .int .i64 1, .pointer (some ⟨gt, 0, none⟩), .int .i64 la, .int .i64 4] 234, QA gt [nx', .int .i64 l1, .int .i64 0, .bool bg', .int .i64 1, .int .i64 0] 265]) ∨ (∃ n', QV l1 s c = (⟨4, n', 0⟩, 1) ∧ 0 < n' ∧ n' ≤ l1 ∧ v = .int .i64 0 ∧ ∃ gt2, l = [QA g [.int .i64 K, .int .i64 W, .int .i64 n', .int .i64 M, .int .i64 l0, .int .i64 l1, .int .i64 l2, .int .i64 at_, .int .i64 2, .pointer (some ⟨gt2, 0, none⟩), .int .i64 la, .int .i64 e] 234, QA gt2 [nxV gt2 0, .int .i64 l2, .int .i64 0, .bool false, .int .i64 0, .int .i64 9] 265])) := by
 refine Qk (vs := [.pointer (some ⟨g, 0, none⟩), .int .u8 c]) Tryz.func166 rfl Tryz.ntmps166 rfl ?_
 refine Qb (Qa (Qe rfl rfl (WpL.nil (Qb (Qa (Qc rfl rfl (Qq rfl rfl (Qj (o2 := 9) rfl rfl rfl (Qo rfl rfl (by rfl) ?_)))))))))
 refine Qc rfl rfl (Qh rfl rfl (by repeat' constructor) (tkPut_alt gt l1 s bg nx c hok hnx hc0 hc1 (by omega)) ?_)
 intro v0 m0 hN0
 rcases hN0 with ⟨s', bg', hT, hok', rfl, rfl⟩ | ⟨n', bg', nx', hT, hn0, hn1, rfl, rfl⟩ | ⟨e', bg', nx', hT, he, rfl, rfl⟩
 ·simp only [Qr]
  refine Qe rfl rfl (WpL.nil (Qb (Qb (Qa (Qc rfl rfl (QN rfl rfl rfl (WpL.nil (QU rfl rfl (Qb (Qa (Qc rfl rfl (Qe rfl rfl ?_))))))))))))
  refine WpL.nil (Qi ?_)
  apply RetQ.mk
  ·exact (Res.one rfl rfl)
  ·exact .inl ⟨s', bg', hT, hok', rfl, rfl⟩
  ·exact Take.ent' (by repeat' constructor)
 ·simp only [Qr]
  refine Qe rfl rfl (WpL.nil (Qb (Qb (Qa (Qc rfl rfl (QN rfl rfl rfl (WpL.nil (Qz rfl (by decide) (Wp.skip (Qb (Qa (Qc rfl rfl ?_))))))))))))
  refine Qq rfl rfl (Qj (o2 := 9) rfl rfl rfl (Qo rfl rfl (by rfl) ?_))
  refine Qh rfl rfl (by repeat' constructor) (X2 gt _ _ _ _ _ _) ?_
  rintro _ _ ⟨rfl, rfl⟩
  simp only [Qr]
  simp only [if_true]
  refine Qc rfl rfl (QH rfl rfl rfl (QH rfl rfl rfl (Qe rfl rfl (Qe rfl rfl (WpL.nil (Qb (Wp.block ?_)))))))
  refine Qb (Qa (Qc rfl rfl (Xn rfl rfl rfl (Qe rfl rfl (WpL.nil (Qz rfl (by decide) (Qb (Qa (Qc rfl rfl (QN rfl rfl rfl (Qe rfl rfl (WpL.nil ?_))))))))))))
  refine Ql rfl (fun hz => ?_) (fun hz => ?_)
  ·subst hz
   refine Qb (Qa (Qc rfl rfl (Qh rfl rfl (by repeat' constructor) (Xw _ _ _ _ _ _ _ _ _ _ _ _ _ _) ?_)))
   rintro _ _ ⟨rfl, rfl⟩
   simp only [Qr]
   refine Qe rfl rfl (WpL.nil (Qi ?_))
   apply RetQ.mk
   ·exact (Res.one rfl rfl)
   ·exact .inr (.inr (.inl ⟨bg', nx', hT, rfl, rfl⟩))
   ·exact Ent.refl _
  ·refine Wp.skip (Qb ?_)
   apply X8 (fB := [QA g [.int .i64 K, .int .i64 W, .int .i64 H, .int .i64 M, .int .i64 l0, .int .i64 l1, .int .i64 l2, .int .i64 at_, .int .i64 1, .pointer (some ⟨gt, 0, none⟩), .int .i64 la, .int .i64 e] 234]) [0, 1, 2, 3, 4, 5, 6, 7, 8, 9, 10, 11, 13, 14, 15, 16, 19, 12, 17, 18, 20, 21] [36, 37, 38, 39, 40, 41, 42, 43, 44, 45, 46, 47, 49, 50, 51, 52, 55, 48, 53, 54, 56] 22 mixed (by kernel_rfl) [(17, false), (3, false)] (by kernel_rfl) (by kernel_rfl) (by kernel_rfl)
   apply Xe [⟨0, 36, _, [], false⟩, ⟨1, 37, _, [0], false⟩, ⟨2, 38, _, [1], false⟩, ⟨3, 39, _, [2], false⟩, ⟨4, 40, _, [], false⟩, ⟨5, 41, _, [4], false⟩, ⟨6, 42, _, [5], false⟩, ⟨7, 43, _, [6], false⟩, ⟨8, 44, _, [], false⟩, ⟨9, 45, _, [8], false⟩, ⟨10, 46, _, [9], false⟩, ⟨11, 47, _, [10], false⟩, ⟨12, 49, _, [], true⟩, ⟨13, 50, _, [12], true⟩, ⟨14, 51, _, [13], true⟩, ⟨15, 52, _, [14], true⟩, ⟨16, 55, _, [], true⟩] [] [0, 1, 2, 3, 4, 5, 6, 7, 8, 9, 10, 11] [53, 54, 56] [53, 54, 56, 49, 50, 51, 52, 55] (.inl ⟨_, by repeat' constructor⟩) rfl rfl rfl (by kernel_rfl) rfl (by kernel_rfl) rfl rfl
   ·refine Qp 0 [] rfl rfl rfl rfl (by kernel_rfl) rfl ?_ ?_
    ·exact Qc rfl rfl (Qm rfl)
    refine Qp 1 [0] rfl rfl rfl rfl (by kernel_rfl) rfl ?_ ?_
    ·exact Qq rfl rfl (Qm rfl)
    refine Qp 2 [1] rfl rfl rfl rfl (by kernel_rfl) rfl ?_ ?_
    ·exact Qj (o2 := 0) rfl rfl rfl (Qm rfl)
    refine Qp 3 [2] rfl rfl rfl rfl (by kernel_rfl) rfl ?_ ?_
    ·exact Qj (o2 := 1) rfl rfl rfl (Qm rfl)
    refine Qp 4 [] rfl rfl rfl rfl (by kernel_rfl) rfl ?_ ?_
    ·exact Qc rfl rfl (Qm rfl)
    refine Qp 5 [4] rfl rfl rfl rfl (by kernel_rfl) rfl ?_ ?_
    ·exact Qq rfl rfl (Qm rfl)
    refine Qp 6 [5] rfl rfl rfl rfl (by kernel_rfl) rfl ?_ ?_
    ·exact Qj (o2 := 0) rfl rfl rfl (Qm rfl)
    refine Qp 7 [6] rfl rfl rfl rfl (by kernel_rfl) rfl ?_ ?_
    ·exact Qj (o2 := 2) rfl rfl rfl (Qm rfl)
    refine Qp 8 [] rfl rfl rfl rfl (by kernel_rfl) rfl ?_ ?_
    ·exact Qc rfl rfl (Qm rfl)
    refine Qp 9 [8] rfl rfl rfl rfl (by kernel_rfl) rfl ?_ ?_
    ·exact Qq rfl rfl (Qm rfl)
    refine Qp 10 [9] rfl rfl rfl rfl (by kernel_rfl) rfl ?_ ?_
    ·exact Qj (o2 := 0) rfl rfl rfl (Qm rfl)
    refine Qp 11 [10] rfl rfl rfl rfl (by kernel_rfl) rfl ?_ ?_
    ·exact Qj (o2 := 3) rfl rfl rfl (Qm rfl)
    refine Qw 12 [] rfl rfl rfl rfl (by kernel_rfl) rfl ?_ ?_
    ·exact Qc rfl rfl (Qm rfl)
    refine Qw 13 [12] rfl rfl rfl rfl (by kernel_rfl) rfl ?_ ?_
    ·exact Qq rfl rfl (Qm rfl)
    refine Qw 14 [13] rfl rfl rfl rfl (by kernel_rfl) rfl ?_ ?_
    ·exact Qj (o2 := 8) rfl rfl rfl (Qm rfl)
    refine Qw 15 [14] rfl rfl rfl rfl (by kernel_rfl) rfl ?_ ?_
    ·refine Qo rfl rfl (by rfl) ?_
     exact Qm rfl
    refine Qw 16 [] rfl rfl rfl rfl (by kernel_rfl) rfl ?_ ?_
    ·exact Qc rfl rfl (Qm rfl)
    exact AllF.nil
   ·refine s_bs3 rfl rfl rfl rfl rfl rfl rfl rfl ?_
    intro g1
    refine WpL.nil ⟨rfl, rfl, ?_⟩
    apply Xe [⟨18, 53, _, [15, 17], false⟩, ⟨19, 54, _, [18], false⟩, ⟨20, 56, _, [0, 1, 2, 3, 4, 5, 6, 7, 8, 9, 10, 11, 12, 13, 14, 15, 16, 17, 18, 19], false⟩] [12, 13, 14, 15, 16] [12, 13, 14, 15, 16, 18, 19, 20] [] [] (.inl ⟨_, by repeat' constructor⟩) rfl rfl rfl (by kernel_rfl) rfl (by kernel_rfl) rfl rfl
    ·refine Qp 18 [15, 17] rfl rfl rfl rfl (by kernel_rfl) rfl ?_ ?_
     ·refine Q4 1 rfl rfl rfl (RdsL.blk (cs := [.pointer (some ⟨g, 1, none⟩), .pointer (some ⟨g, 2, none⟩), .pointer (some ⟨g, 3, none⟩)]) (xs := [.pointer (some ⟨g, 1, none⟩), .pointer (some ⟨g, 2, none⟩), .pointer (some ⟨g, 3, none⟩)]) (by rfl)) (by exact Take.ent' (by repeat' constructor)) rfl (by decide) (by exact (by decide : 1 < 3)) ?_
      exact Qm rfl
     refine Qp 19 [18] rfl rfl rfl rfl (by kernel_rfl) rfl ?_ ?_
     ·refine Q5 rfl rfl (RdsL.blk (cs := [.pointer (some ⟨g, 1, none⟩), .pointer (some ⟨g, 2, none⟩), .pointer (some ⟨g, 3, none⟩)]) (xs := [.pointer (some ⟨g, 1, none⟩), .pointer (some ⟨g, 2, none⟩), .pointer (some ⟨g, 3, none⟩)]) (by rfl)) (by exact Take.ent' (by repeat' constructor)) (rfl) ?_
      exact Qm rfl
     refine Qp 20 [0, 1, 2, 3, 4, 5, 6, 7, 8, 9, 10, 11, 12, 13, 14, 15, 16, 17, 18, 19] rfl rfl rfl rfl (by kernel_rfl) rfl ?_ ?_
     ·exact Qq rfl rfl (Qm rfl)
     exact AllF.nil
    ·refine Q3 rfl rfl rfl (WpL.nil ⟨rfl, rfl, ?_⟩)
     apply X7 [] 22 (by kernel_rfl) (.inr rfl) rfl rfl
     ·exact AllF.nil
     ·refine QO (gr := [(0, _)]) (FrLe.cons rfl FrLe.nil) ?_
      refine Qb (Qa (Qc rfl rfl (Qq rfl rfl (Qj (o2 := 8) rfl rfl rfl (Qo rfl rfl (by rfl) ?_)))))
      refine QD rfl rfl rfl (Qu (by omega) (by omega)) ?_
      rw [show (1 : Int) + 1 = 2 from rfl]
      refine Qq rfl rfl (Qj (o2 := 8) rfl rfl rfl (Q3 rfl rfl rfl (WpL.nil (Qb (Qb (Qa (Qc rfl rfl (Qq rfl rfl (Qj (o2 := 8) rfl rfl rfl (Qo rfl rfl (by rfl) ?_))))))))))
      refine QN rfl rfl rfl (Qc rfl rfl (Qx (dj := 69) rfl rfl ?_))
      refine Qf rfl rfl (Qc rfl rfl (Qf rfl rfl (Qq rfl rfl (Qf rfl rfl (Qj (o2 := 0) rfl rfl rfl (Qf rfl rfl ?_))))))
      refine QI (vs := [_, _, _, _]) rfl rfl rfl (by rfl) ?_
      refine Qf rfl rfl (Qh rfl rfl (by repeat' constructor) (bits_spec _ _ _ _) ?_)
      rintro _ _ ⟨rfl, rfl⟩
      simp only [Qr]
      refine Qt rfl rfl rfl (WpL.nil (Qz rfl hbk (Wp.skip (Qb (Qb (Qa (Qc rfl rfl (Qq rfl rfl (Qj (o2 := 8) rfl rfl rfl (Qo rfl rfl (by rfl) ?_))))))))))
      refine Q7 rfl rfl rfl (WpL.nil (QO (gr := [(0, _), (91, _)]) (FrLe.cons rfl (FrLe.cons rfl FrLe.nil)) ?_))
      refine QU rfl (by decide) (Qb ?_)
      apply Xs (fB := []) mixed [(10, false), (2, false)] (by kernel_rfl)
      apply Xk [⟨0, 92, _, [], true⟩, ⟨1, 93, _, [], false⟩, ⟨2, 94, _, [], false⟩, ⟨3, 95, _, [2], false⟩, ⟨4, 96, _, [3], false⟩, ⟨5, 97, _, [4], false⟩, ⟨6, 98, _, [1], false⟩, ⟨7, 99, _, [6], false⟩, ⟨8, 100, _, [5, 7], false⟩, ⟨9, 101, _, [8], false⟩] [] [1, 2, 3, 4, 5, 6, 7, 8, 9] [103, 104, 92] (.inl ⟨_, .nil⟩) rfl rfl rfl (by kernel_rfl) rfl rfl rfl
      ·refine XQ rfl rfl rfl rfl ?_ ?_
       ·exact Qc rfl rfl (Qm rfl)
       refine AllF.cons rfl rfl rfl rfl ?_ ?_
       ·exact Qc rfl rfl (Qm rfl)
       refine AllF.cons rfl rfl rfl rfl ?_ ?_
       ·exact Qc rfl rfl (Qm rfl)
       refine AllF.cons rfl rfl rfl rfl ?_ ?_
       ·exact Qq rfl rfl (Qm rfl)
       refine AllF.cons rfl rfl rfl rfl ?_ ?_
       ·exact Qj (o2 := 8) rfl rfl rfl (Qm rfl)
       refine AllF.cons rfl rfl rfl rfl ?_ ?_
       ·refine Qo rfl rfl (by rfl) ?_
        exact Qm rfl
       refine AllF.cons rfl rfl rfl rfl ?_ ?_
       ·exact Qq rfl rfl (Qm rfl)
       refine AllF.cons rfl rfl rfl rfl ?_ ?_
       ·exact Qj (o2 := 4) rfl rfl rfl (Qm rfl)
       refine AllF.cons rfl rfl rfl rfl ?_ ?_
       ·exact s_ixarS (o2 := 6) 2 rfl rfl rfl rfl (by decide) rfl (Qm rfl)
       refine AllF.cons rfl rfl rfl rfl ?_ ?_
       ·refine Qo rfl rfl (by rfl) ?_
        exact Qm rfl
       exact AllF.nil
      ·refine Qh rfl rfl (by repeat' constructor) (Vk _) ?_
       rintro _ _ ⟨gT, rfl, rfl⟩
       simp only [Qr]
       refine WpL.nil ⟨rfl, rfl, ?_⟩
       apply Xk [⟨11, 103, _, [0, 1, 2, 3, 4, 5, 6, 7, 8, 9, 10], false⟩, ⟨12, 104, _, [0, 1, 2, 3, 4, 5, 6, 7, 8, 9, 10, 11], false⟩] [0] [0, 11, 12] [] (.inl ⟨_, .nil⟩) rfl rfl rfl (by kernel_rfl) rfl rfl rfl
       ·refine AllF.cons rfl rfl rfl rfl ?_ ?_
        ·exact Qq rfl rfl (Qm rfl)
        refine AllF.cons rfl rfl rfl rfl ?_ ?_
        ·exact Qj (o2 := 9) rfl rfl rfl (Qm rfl)
        exact AllF.nil
       ·refine Q3 rfl rfl rfl (WpL.nil ⟨rfl, rfl, ?_⟩)
        apply GoR.nil [] (.inr rfl) rfl rfl
        ·exact AllF.nil
        ·refine Qb (Qa (Qe rfl rfl (WpL.nil (Qi ?_))))
         apply RetQ.mk
         ·exact (Res.one rfl rfl)
         ·refine .inr (.inr (.inr ⟨n', hT, by omega, hn1, rfl, gT, rfl⟩))
         ·exact Take.ent' (by repeat' constructor)
 ·simp only [Qr]
  refine Qe rfl rfl (WpL.nil (Qb (Qb (Qa (Qc rfl rfl (QN rfl rfl rfl (WpL.nil (Qz rfl (by decide) (Wp.skip (Qb (Qa (Qc rfl rfl ?_))))))))))))
  refine Qq rfl rfl (Qj (o2 := 9) rfl rfl rfl (Qo rfl rfl (by rfl) ?_))
  refine Qh rfl rfl (by repeat' constructor) (X2 gt _ _ _ _ _ _) ?_
  rintro _ _ ⟨rfl, rfl⟩
  simp only [Qr]
  rw [if_neg (by decide), if_neg (by decide)]
  refine Qc rfl rfl (QH rfl rfl rfl (QH rfl rfl rfl (Qe rfl rfl (Qe rfl rfl (WpL.nil (Qb (Wp.block ?_)))))))
  refine Qb (Qa (Qc rfl rfl (Xn rfl rfl rfl (Qe rfl rfl (WpL.nil (QU rfl (by omega) ?_))))))
  refine Qb (Qa (Qc rfl rfl (Qc rfl rfl (Qh rfl rfl (by repeat' constructor) (Xw _ _ _ _ _ _ _ _ _ _ _ _ _ _) ?_))))
  rintro _ _ ⟨rfl, rfl⟩
  simp only [Qr]
  refine Qe rfl rfl (WpL.nil (Qi ?_))
  apply RetQ.mk
  ·exact (Res.one rfl rfl)
  ·exact .inr (.inl ⟨e', bg', nx', hT, rfl, rfl⟩)
  ·exact Ent.refl _

set_option maxHeartbeats 1000000 in
theorem hdNum_2 (g gt : Nat) (K W H M l0 l1 l2 at_ la e : Int) (s : TS) (bg : Bool) (nx : Value) (c : Int) (hc0 : 0 ≤ c) (hc1 : c ≤ 255) (hl : (1 ≤ l0 ∧ l0 ≤ 4096) ∧ (1 ≤ l1 ∧ l1 ≤ 65536) ∧ (1 ≤ l2 ∧ l2 ≤ 65535)) (hnx : nx = nxV gt s.ph) (hok : Zx l2 s)  : Fn Tryz.prog 166 #[.pointer (some ⟨g, 0, none⟩), .int .u8 c] [QA g [.int .i64 K, .int .i64 W, .int .i64 H, .int .i64 M, .int .i64 l0, .int .i64 l1, .int .i64 l2, .int .i64 at_, .int .i64 2, .pointer (some ⟨gt, 0, none⟩), .int .i64 la, .int .i64 e] 234, QA gt [nx, .int .i64 l2, .int .i64 s.n, .bool bg, .int .i64 0, .int .i64 s.e] 265] (fun v l => (∃ s' bg', QV l2 s c = (s', 0) ∧ Zx l2 s' ∧ v = .int .i64 0 ∧ l = [QA g [.int .i64 K, .int .i64 W, .int .i64 H, .int .i64 M, .int .i64 l0, .int .i64 l1, .int .i64 l2, .int .i64 at_, .int .i64 2, .pointer (some ⟨gt, 0, none⟩), .int .i64 la, .int .i64 e] 234, QA gt [nxV gt s'.ph, .int .i64 l2, .int .i64 s'.n, .bool bg', .int .i64 0, .int .i64 s'.e] 265]) ∨ (∃ e' bg' nx', QV l2 s c = (⟨5, 0, e'⟩, 2) ∧ v = .int .i64 2 ∧ l = [QA g [.int .i64 K, .int .i64 W, .int .i64 H, .int .i64 M, .int .i64 l0, .int .i64 l1, .int .i64 l2, .int .i64 at_, .int .i64 2, .pointer (some ⟨gt, 0, none⟩), .int .i64 la, .int .i64 e'] 234, QA gt [nx', .int .i64 l2, .int .i64 0, .bool bg', .int .i64 2, .int .i64 e'] 265]) ∨ (∃ bg' nx', QV l2 s c = (⟨4, 0, 0⟩, 1) ∧ v = .int .i64 2 ∧ l = [QA g [.int .i64 K, .int .i64 W, .int .i64 H, .int .i64 M, .int .i64 l0, .int .i64 l1, .int .i64 l2, .int .i64 at_, .int .i64 2, .pointer (some ⟨gt, 0, none⟩), .int .i64 la, .int .i64 4] 234, QA gt [nx', .int .i64 l2, .int .i64 0, .bool bg', .int .i64 1, .int .i64 0] 265]) ∨ (∃ n', QV l2 s c = (⟨4, n', 0⟩, 1) ∧ 0 < n' ∧ n' ≤ l2 ∧ v = .int .i64 1 ∧ ∃ bg' nx', l = [QA g [.int .i64 K, .int .i64 W, .int .i64 H, .int .i64 n', .int .i64 l0, .int .i64 l1, .int .i64 l2, .int .i64 at_, .int .i64 3, .pointer (some ⟨gt, 0, none⟩), .int .i64 la, .int .i64 0] 234, QA gt [nx', .int .i64 l2, .int .i64 n', .bool bg', .int .i64 1, .int .i64 0] 265])) := by
 refine Qk (vs := [.pointer (some ⟨g, 0, none⟩), .int .u8 c]) Tryz.func166 rfl Tryz.ntmps166 rfl ?_
 refine Qb (Qa (Qe rfl rfl (WpL.nil (Qb (Qa (Qc rfl rfl (Qq rfl rfl (Qj (o2 := 9) rfl rfl rfl (Qo rfl rfl (by rfl) ?_)))))))))
 refine Qc rfl rfl (Qh rfl rfl (by repeat' constructor) (tkPut_alt gt l2 s bg nx c hok hnx hc0 hc1 (by omega)) ?_)
 intro v0 m0 hN0
 rcases hN0 with ⟨s', bg', hT, hok', rfl, rfl⟩ | ⟨n', bg', nx', hT, hn0, hn1, rfl, rfl⟩ | ⟨e', bg', nx', hT, he, rfl, rfl⟩
 ·simp only [Qr]
  refine Qe rfl rfl (WpL.nil (Qb (Qb (Qa (Qc rfl rfl (QN rfl rfl rfl (WpL.nil (QU rfl rfl (Qb (Qa (Qc rfl rfl (Qe rfl rfl ?_))))))))))))
  refine WpL.nil (Qi ?_)
  apply RetQ.mk
  ·exact (Res.one rfl rfl)
  ·exact .inl ⟨s', bg', hT, hok', rfl, rfl⟩
  ·exact Take.ent' (by repeat' constructor)
 ·simp only [Qr]
  refine Qe rfl rfl (WpL.nil (Qb (Qb (Qa (Qc rfl rfl (QN rfl rfl rfl (WpL.nil (Qz rfl (by decide) (Wp.skip (Qb (Qa (Qc rfl rfl ?_))))))))))))
  refine Qq rfl rfl (Qj (o2 := 9) rfl rfl rfl (Qo rfl rfl (by rfl) ?_))
  refine Qh rfl rfl (by repeat' constructor) (X2 gt _ _ _ _ _ _) ?_
  rintro _ _ ⟨rfl, rfl⟩
  simp only [Qr]
  simp only [if_true]
  refine Qc rfl rfl (QH rfl rfl rfl (QH rfl rfl rfl (Qe rfl rfl (Qe rfl rfl (WpL.nil (Qb (Wp.block ?_)))))))
  refine Qb (Qa (Qc rfl rfl (Xn rfl rfl rfl (Qe rfl rfl (WpL.nil (Qz rfl (by decide) (Qb (Qa (Qc rfl rfl (QN rfl rfl rfl (Qe rfl rfl (WpL.nil ?_))))))))))))
  refine Ql rfl (fun hz => ?_) (fun hz => ?_)
  ·subst hz
   refine Qb (Qa (Qc rfl rfl (Qh rfl rfl (by repeat' constructor) (Xw _ _ _ _ _ _ _ _ _ _ _ _ _ _) ?_)))
   rintro _ _ ⟨rfl, rfl⟩
   simp only [Qr]
   refine Qe rfl rfl (WpL.nil (Qi ?_))
   apply RetQ.mk
   ·exact (Res.one rfl rfl)
   ·exact .inr (.inr (.inl ⟨bg', nx', hT, rfl, rfl⟩))
   ·exact Ent.refl _
  ·refine Wp.skip (Qb ?_)
   apply X8 (fB := [QA g [.int .i64 K, .int .i64 W, .int .i64 H, .int .i64 M, .int .i64 l0, .int .i64 l1, .int .i64 l2, .int .i64 at_, .int .i64 2, .pointer (some ⟨gt, 0, none⟩), .int .i64 la, .int .i64 e] 234]) [0, 1, 2, 3, 4, 5, 6, 7, 8, 9, 10, 11, 13, 14, 15, 16, 19, 12, 17, 18, 20, 21] [36, 37, 38, 39, 40, 41, 42, 43, 44, 45, 46, 47, 49, 50, 51, 52, 55, 48, 53, 54, 56] 22 mixed (by kernel_rfl) [(17, false), (3, false)] (by kernel_rfl) (by kernel_rfl) (by kernel_rfl)
   apply Xe [⟨0, 36, _, [], false⟩, ⟨1, 37, _, [0], false⟩, ⟨2, 38, _, [1], false⟩, ⟨3, 39, _, [2], false⟩, ⟨4, 40, _, [], false⟩, ⟨5, 41, _, [4], false⟩, ⟨6, 42, _, [5], false⟩, ⟨7, 43, _, [6], false⟩, ⟨8, 44, _, [], false⟩, ⟨9, 45, _, [8], false⟩, ⟨10, 46, _, [9], false⟩, ⟨11, 47, _, [10], false⟩, ⟨12, 49, _, [], true⟩, ⟨13, 50, _, [12], true⟩, ⟨14, 51, _, [13], true⟩, ⟨15, 52, _, [14], true⟩, ⟨16, 55, _, [], true⟩] [] [0, 1, 2, 3, 4, 5, 6, 7, 8, 9, 10, 11] [53, 54, 56] [53, 54, 56, 49, 50, 51, 52, 55] (.inl ⟨_, by repeat' constructor⟩) rfl rfl rfl (by kernel_rfl) rfl (by kernel_rfl) rfl rfl
   ·refine Qp 0 [] rfl rfl rfl rfl (by kernel_rfl) rfl ?_ ?_
    ·exact Qc rfl rfl (Qm rfl)
    refine Qp 1 [0] rfl rfl rfl rfl (by kernel_rfl) rfl ?_ ?_
    ·exact Qq rfl rfl (Qm rfl)
    refine Qp 2 [1] rfl rfl rfl rfl (by kernel_rfl) rfl ?_ ?_
    ·exact Qj (o2 := 0) rfl rfl rfl (Qm rfl)
    refine Qp 3 [2] rfl rfl rfl rfl (by kernel_rfl) rfl ?_ ?_
    ·exact Qj (o2 := 1) rfl rfl rfl (Qm rfl)
    refine Qp 4 [] rfl rfl rfl rfl (by kernel_rfl) rfl ?_ ?_
    ·exact Qc rfl rfl (Qm rfl)
    refine Qp 5 [4] rfl rfl rfl rfl (by kernel_rfl) rfl ?_ ?_
    ·exact Qq rfl rfl (Qm rfl)
    refine Qp 6 [5] rfl rfl rfl rfl (by kernel_rfl) rfl ?_ ?_
    ·exact Qj (o2 := 0) rfl rfl rfl (Qm rfl)
    refine Qp 7 [6] rfl rfl rfl rfl (by kernel_rfl) rfl ?_ ?_
    ·exact Qj (o2 := 2) rfl rfl rfl (Qm rfl)
    refine Qp 8 [] rfl rfl rfl rfl (by kernel_rfl) rfl ?_ ?_
    ·exact Qc rfl rfl (Qm rfl)
    refine Qp 9 [8] rfl rfl rfl rfl (by kernel_rfl) rfl ?_ ?_
    ·exact Qq rfl rfl (Qm rfl)
    refine Qp 10 [9] rfl rfl rfl rfl (by kernel_rfl) rfl ?_ ?_
    ·exact Qj (o2 := 0) rfl rfl rfl (Qm rfl)
    refine Qp 11 [10] rfl rfl rfl rfl (by kernel_rfl) rfl ?_ ?_
    ·exact Qj (o2 := 3) rfl rfl rfl (Qm rfl)
    refine Qw 12 [] rfl rfl rfl rfl (by kernel_rfl) rfl ?_ ?_
    ·exact Qc rfl rfl (Qm rfl)
    refine Qw 13 [12] rfl rfl rfl rfl (by kernel_rfl) rfl ?_ ?_
    ·exact Qq rfl rfl (Qm rfl)
    refine Qw 14 [13] rfl rfl rfl rfl (by kernel_rfl) rfl ?_ ?_
    ·exact Qj (o2 := 8) rfl rfl rfl (Qm rfl)
    refine Qw 15 [14] rfl rfl rfl rfl (by kernel_rfl) rfl ?_ ?_
    ·refine Qo rfl rfl (by rfl) ?_
     exact Qm rfl
    refine Qw 16 [] rfl rfl rfl rfl (by kernel_rfl) rfl ?_ ?_
    ·exact Qc rfl rfl (Qm rfl)
    exact AllF.nil
   ·refine s_bs3 rfl rfl rfl rfl rfl rfl rfl rfl ?_
    intro g1
    refine WpL.nil ⟨rfl, rfl, ?_⟩
    apply Xe [⟨18, 53, _, [15, 17], false⟩, ⟨19, 54, _, [18], false⟩, ⟨20, 56, _, [0, 1, 2, 3, 4, 5, 6, 7, 8, 9, 10, 11, 12, 13, 14, 15, 16, 17, 18, 19], false⟩] [12, 13, 14, 15, 16] [12, 13, 14, 15, 16, 18, 19, 20] [] [] (.inl ⟨_, by repeat' constructor⟩) rfl rfl rfl (by kernel_rfl) rfl (by kernel_rfl) rfl rfl
    ·refine Qp 18 [15, 17] rfl rfl rfl rfl (by kernel_rfl) rfl ?_ ?_
     ·refine Q4 2 rfl rfl rfl (RdsL.blk (cs := [.pointer (some ⟨g, 1, none⟩), .pointer (some ⟨g, 2, none⟩), .pointer (some ⟨g, 3, none⟩)]) (xs := [.pointer (some ⟨g, 1, none⟩), .pointer (some ⟨g, 2, none⟩), .pointer (some ⟨g, 3, none⟩)]) (by rfl)) (by exact Take.ent' (by repeat' constructor)) rfl (by decide) (by exact (by decide : 2 < 3)) ?_
      exact Qm rfl
     refine Qp 19 [18] rfl rfl rfl rfl (by kernel_rfl) rfl ?_ ?_
     ·refine Q5 rfl rfl (RdsL.blk (cs := [.pointer (some ⟨g, 1, none⟩), .pointer (some ⟨g, 2, none⟩), .pointer (some ⟨g, 3, none⟩)]) (xs := [.pointer (some ⟨g, 1, none⟩), .pointer (some ⟨g, 2, none⟩), .pointer (some ⟨g, 3, none⟩)]) (by rfl)) (by exact Take.ent' (by repeat' constructor)) (rfl) ?_
      exact Qm rfl
     refine Qp 20 [0, 1, 2, 3, 4, 5, 6, 7, 8, 9, 10, 11, 12, 13, 14, 15, 16, 17, 18, 19] rfl rfl rfl rfl (by kernel_rfl) rfl ?_ ?_
     ·exact Qq rfl rfl (Qm rfl)
     exact AllF.nil
    ·refine Q3 rfl rfl rfl (WpL.nil ⟨rfl, rfl, ?_⟩)
     apply X7 [] 22 (by kernel_rfl) (.inr rfl) rfl rfl
     ·exact AllF.nil
     ·refine QO (gr := [(0, _)]) (FrLe.cons rfl FrLe.nil) ?_
      refine Qb (Qa (Qc rfl rfl (Qq rfl rfl (Qj (o2 := 8) rfl rfl rfl (Qo rfl rfl (by rfl) ?_)))))
      refine QD rfl rfl rfl (Qu (by omega) (by omega)) ?_
      rw [show (2 : Int) + 1 = 3 from rfl]
      refine Qq rfl rfl (Qj (o2 := 8) rfl rfl rfl (Q3 rfl rfl rfl (WpL.nil (Qb (Qb (Qa (Qc rfl rfl (Qq rfl rfl (Qj (o2 := 8) rfl rfl rfl (Qo rfl rfl (by rfl) ?_))))))))))
      refine QN rfl rfl rfl (Qc rfl rfl (Qy (dj := 69) rfl (by decide) ?_))
      refine Qd rfl rfl rfl (by decide) (Qd rfl rfl rfl (by decide) (Qd rfl rfl rfl (by decide) (Qd rfl rfl rfl (by decide) (Qd rfl rfl rfl (by decide) (Qs rfl rfl rfl (WpL.nil (QZ rfl (Wp.skip (Qb (Qb (Qa (Qc rfl rfl ?_))))))))))))
      refine Qq rfl rfl (Qj (o2 := 8) rfl rfl rfl (Qo rfl rfl (by rfl) ?_))
      refine Q7 rfl rfl rfl (WpL.nil (QO (gr := [(0, _), (91, _)]) (FrLe.cons rfl (FrLe.cons rfl FrLe.nil)) ?_))
      refine Qz rfl (by decide) (Wp.skip (Qb (Qa (Qc rfl rfl (Qq rfl rfl (Qj (o2 := 11) rfl rfl rfl (Q3 rfl rfl rfl (WpL.nil (Qb (Qa (Qe rfl rfl (WpL.nil ?_))))))))))))
      refine Qi ?_
      apply RetQ.mk
      ·exact (Res.one rfl rfl)
      ·exact .inr (.inr (.inr ⟨n', hT, by omega, hn1, rfl, bg', nx', rfl⟩))
      ·exact Take.ent' (by repeat' constructor)
 ·simp only [Qr]
  refine Qe rfl rfl (WpL.nil (Qb (Qb (Qa (Qc rfl rfl (QN rfl rfl rfl (WpL.nil (Qz rfl (by decide) (Wp.skip (Qb (Qa (Qc rfl rfl ?_))))))))))))
  refine Qq rfl rfl (Qj (o2 := 9) rfl rfl rfl (Qo rfl rfl (by rfl) ?_))
  refine Qh rfl rfl (by repeat' constructor) (X2 gt _ _ _ _ _ _) ?_
  rintro _ _ ⟨rfl, rfl⟩
  simp only [Qr]
  rw [if_neg (by decide), if_neg (by decide)]
  refine Qc rfl rfl (QH rfl rfl rfl (QH rfl rfl rfl (Qe rfl rfl (Qe rfl rfl (WpL.nil (Qb (Wp.block ?_)))))))
  refine Qb (Qa (Qc rfl rfl (Xn rfl rfl rfl (Qe rfl rfl (WpL.nil (QU rfl (by omega) ?_))))))
  refine Qb (Qa (Qc rfl rfl (Qc rfl rfl (Qh rfl rfl (by repeat' constructor) (Xw _ _ _ _ _ _ _ _ _ _ _ _ _ _) ?_))))
  rintro _ _ ⟨rfl, rfl⟩
  simp only [Qr]
  refine Qe rfl rfl (WpL.nil (Qi ?_))
  apply RetQ.mk
  ·exact (Res.one rfl rfl)
  ·exact .inr (.inl ⟨e', bg', nx', hT, rfl, rfl⟩)
  ·exact Ent.refl _

end Go.Proofs.YtggamdlpiejbiaaGreat
namespace Go.Proofs.YtggamdlpiejbiaaGreat
open Go.RowKit Go.Shelf


def hdT (l0 l1 l2 : Int) (s : HS) (pt : Value) (A : HP) : Prop := (s.at_ < 3 ∧ A = emp ∧ pt = .pointer none) ∨ (s.at_ = 3 ∧ Zx (X4 l0 l1 l2 s.i) s.t ∧ ∃ gt bg, pt = .pointer (some ⟨gt, 0, none⟩) ∧ A = QA gt [nxV gt s.t.ph, .int .i64 (X4 l0 l1 l2 s.i), .int .i64 s.t.n, .bool bg, .int .i64 0, .int .i64 s.t.e] 265)
def hdI (s : HS) : Prop := s.last = 0 ∧ 0 ≤ s.at_ ∧ s.at_ ≤ 3 ∧ 0 ≤ s.i ∧ s.i ≤ 2 ∧ (s.at_ < 3 → s.i = 0)
theorem tk0_soft {l0 c : Int} (hl : 1 ≤ l0) (h : Q6 c = true ∨ c = 35) : (QV l0 tk0 c).2 = 0 ∧ Zx l0 (QV l0 tk0 c).1 := by
  have hok : Zx l0 tk0 := by unfold Zx tk0; dsimp only; omega
  have key : (QV l0 tk0 c).2 = 0 := by
    unfold QV tk0
    dsimp only
    rw [if_neg (by decide), if_neg (by decide), if_neg (by decide), if_neg (by decide)]
    rcases h with h | h
    · rw [if_neg (blank_35 h), if_pos h, if_pos rfl]
    · rw [if_pos h]
  refine ⟨key, ?_⟩
  rcases tkPut_cases (c := c) hok with ⟨_, h2⟩ | ⟨h2, _⟩ | ⟨h2, _⟩
  · exact h2
  · omega
  · omega
theorem hdMagic_spec (g : Nat) (l0 l1 l2 : Int) (s : HS) (pt : Value) (c : Int) (hc0 : 0 ≤ c) (hc1 : c ≤ 255) (hl : (1 ≤ l0 ∧ l0 ≤ 4096) ∧ (1 ≤ l1 ∧ l1 ≤ 65536) ∧ (1 ≤ l2 ∧ l2 ≤ 65535)) (hI : hdI s) (hat : s.at_ < 3) (hpt : pt = .pointer none) :
    Fn Tryz.prog 165 #[.pointer (some ⟨g, 0, none⟩), .int .u8 c] [QA g [.int .i64 s.K, .int .i64 s.W, .int .i64 s.H, .int .i64 s.M, .int .i64 l0, .int .i64 l1, .int .i64 l2, .int .i64 s.at_, .int .i64 s.i, pt, .int .i64 0, .int .i64 s.e] 234] (fun v l => ∃ s' pt' A', s' = XP l0 s c ∧ v = .int .i64 s'.last ∧ (s'.last = 0 → hdI s' ∧ hdT l0 l1 l2 s' pt' A') ∧ l = [QA g [.int .i64 s'.K, .int .i64 s'.W, .int .i64 s'.H, .int .i64 s'.M, .int .i64 l0, .int .i64 l1, .int .i64 l2, .int .i64 s'.at_, .int .i64 s'.i, pt', .int .i64 0, .int .i64 s'.e] 234, A']) := by
  obtain ⟨K, W, H, M, at_, i, t, last, e⟩ := s
  obtain ⟨h1, h2, h3, h4, h5, h6⟩ := hI
  dsimp only at *
  obtain rfl := h6 hat
  subst h1
  obtain rfl | rfl | rfl : at_ = 0 ∨ at_ = 1 ∨ at_ = 2 := by omega
  · by_cases hc : c = 80
    · refine (hdMagic_0b g K W H M l0 l1 l2 0 0 e pt c hc).mono ?_
      rintro v l ⟨rfl, rfl⟩
      have hm : XP l0 ⟨K, W, H, M, 0, 0, t, 0, e⟩ c = ⟨K, W, H, M, 1, 0, t, 0, e⟩ := by
        unfold XP; dsimp only
        rw [if_neg (by omega), if_neg (by omega), if_neg (by omega)]; rfl
      exact ⟨_, ⟨⟨K, W, H, M, 1, 0, t, 0, e⟩, pt, emp, hm.symm, rfl, (fun _ => ⟨by unfold hdI; dsimp only; omega, .inl ⟨show (1 : Int) < 3 by decide, rfl, hpt⟩⟩), rfl⟩, (Yy (Ent.refl _)).trans (Take.ent' (by repeat' constructor))⟩
    · refine (hdMagic_0a g K W H M l0 l1 l2 0 0 e pt c hc).mono ?_
      rintro v l ⟨rfl, rfl⟩
      have hm : XP l0 ⟨K, W, H, M, 0, 0, t, 0, e⟩ c = ⟨K, W, H, M, 1, 0, t, 2, 2⟩ := by
        unfold XP; dsimp only
        rw [if_pos (.inl ⟨by omega, hc⟩)]; rfl
      exact ⟨_, ⟨⟨K, W, H, M, 1, 0, t, 2, 2⟩, pt, emp, hm.symm, rfl, (fun h => absurd (show (2 : Int) = 0 from h) (by decide)), rfl⟩, (Yy (Ent.refl _)).trans (Take.ent' (by repeat' constructor))⟩
  · by_cases hc : 49 ≤ c ∧ c ≤ 54
    · refine (hdMagic_1c g K W H M l0 l1 l2 0 0 e pt c hc).mono ?_
      rintro v l ⟨rfl, rfl⟩
      have hm : XP l0 ⟨K, W, H, M, 1, 0, t, 0, e⟩ c = ⟨c - 48, W, H, M, 2, 0, t, 0, e⟩ := by
        unfold XP; dsimp only
        rw [if_neg (by omega), if_pos (by omega)]; rfl
      exact ⟨_, ⟨⟨c - 48, W, H, M, 2, 0, t, 0, e⟩, pt, emp, hm.symm, rfl, (fun _ => ⟨by unfold hdI; dsimp only; omega, .inl ⟨show (2 : Int) < 3 by decide, rfl, hpt⟩⟩), rfl⟩, (Yy (Ent.refl _)).trans (Take.ent' (by repeat' constructor))⟩
    · have hm : XP l0 ⟨K, W, H, M, 1, 0, t, 0, e⟩ c = ⟨K, W, H, M, 2, 0, t, 2, 2⟩ := by
        unfold XP; dsimp only
        rw [if_pos (.inr ⟨by omega, by omega⟩)]; rfl
      have key : Fn Tryz.prog 165 #[.pointer (some ⟨g, 0, none⟩), .int .u8 c] [QA g [.int .i64 K, .int .i64 W, .int .i64 H, .int .i64 M, .int .i64 l0, .int .i64 l1, .int .i64 l2, .int .i64 1, .int .i64 0, pt, .int .i64 0, .int .i64 e] 234] (fun v l => v = .int .i64 2 ∧ l = [QA g [.int .i64 K, .int .i64 W, .int .i64 H, .int .i64 M, .int .i64 l0, .int .i64 l1, .int .i64 l2, .int .i64 2, .int .i64 0, pt, .int .i64 0, .int .i64 2] 234]) := by
        by_cases h : c < 49
        · exact hdMagic_1a g K W H M l0 l1 l2 0 0 e pt c h
        · exact hdMagic_1b g K W H M l0 l1 l2 0 0 e pt c (by omega)
      refine key.mono ?_
      rintro v l ⟨rfl, rfl⟩
      exact ⟨_, ⟨⟨K, W, H, M, 2, 0, t, 2, 2⟩, pt, emp, hm.symm, rfl, (fun h => absurd (show (2 : Int) = 0 from h) (by decide)), rfl⟩, (Yy (Ent.refl _)).trans (Take.ent' (by repeat' constructor))⟩
  · by_cases hc : Q6 c = true ∨ c = 35
    · have hs := tk0_soft (l0 := l0) (by omega) hc
      have hm : XP l0 ⟨K, W, H, M, 2, 0, t, 0, e⟩ c = ⟨K, W, H, M, 3, 0, (QV l0 tk0 c).1, 0, e⟩ := by
        unfold XP; dsimp only
        rw [if_neg (by omega), if_neg (by omega), if_pos (by omega), if_neg (fun q => q.2 (hc.resolve_left (by rw [q.1]; decide)))]; rfl
      have key : Fn Tryz.prog 165 #[.pointer (some ⟨g, 0, none⟩), .int .u8 c] [QA g [.int .i64 K, .int .i64 W, .int .i64 H, .int .i64 M, .int .i64 l0, .int .i64 l1, .int .i64 l2, .int .i64 2, .int .i64 0, pt, .int .i64 0, .int .i64 e] 234] (fun v l => ∃ gt s' r bg' nx', ((s', r) : TS × Int) = QV l0 tk0 c ∧ v = .int .i64 0 ∧ (r = 0 → nx' = nxV gt s'.ph) ∧ l = [QA g [.int .i64 K, .int .i64 W, .int .i64 H, .int .i64 M, .int .i64 l0, .int .i64 l1, .int .i64 l2, .int .i64 3, .int .i64 0, .pointer (some ⟨gt, 0, none⟩), .int .i64 0, .int .i64 e] 234, QA gt [nx', .int .i64 l0, .int .i64 s'.n, .bool bg', .int .i64 r, .int .i64 s'.e] 265]) := by
        cases hb : Q6 c with
        | true => exact hdMagic_2b g K W H M l0 l1 l2 0 0 e pt c hc0 hc1 hl hb
        | false => exact hdMagic_2c g K W H M l0 l1 l2 0 0 e pt c hc0 hc1 hl hb (hc.resolve_left (by rw [hb]; decide))
      refine key.mono ?_
      rintro v l ⟨gt, s', r, bg', nx', hq, rfl, hn, rfl⟩
      rw [← hq] at hs hm
      obtain ⟨hs1, hs2⟩ := hs
      dsimp only at hs1 hs2 hm
      subst hs1
      obtain rfl := hn rfl
      exact ⟨_, ⟨⟨K, W, H, M, 3, 0, s', 0, e⟩, _, _, hm.symm, rfl, (fun _ => ⟨by unfold hdI; dsimp only; omega, .inr ⟨rfl, hs2, gt, bg', rfl, rfl⟩⟩), rfl⟩, Ent.refl _⟩
    · have hb : Q6 c = false := by cases hb : Q6 c <;> simp_all
      have h35 : c ≠ 35 := fun h => hc (.inr h)
      refine (hdMagic_2a g K W H M l0 l1 l2 0 0 e pt c hc0 hc1 hb h35).mono ?_
      rintro v l ⟨rfl, rfl⟩
      have hm : XP l0 ⟨K, W, H, M, 2, 0, t, 0, e⟩ c = ⟨K, W, H, M, 3, 0, t, 2, 3⟩ := by
        unfold XP; dsimp only
        rw [if_neg (by omega), if_neg (by omega), if_pos (by omega), if_pos ⟨hb, h35⟩]; rfl
      exact ⟨_, ⟨⟨K, W, H, M, 3, 0, t, 2, 3⟩, pt, emp, hm.symm, rfl, (fun h => absurd (show (2 : Int) = 0 from h) (by decide)), rfl⟩, (Yy (Ent.refl _)).trans (Take.ent' (by repeat' constructor))⟩

end Go.Proofs.YtggamdlpiejbiaaGreat
