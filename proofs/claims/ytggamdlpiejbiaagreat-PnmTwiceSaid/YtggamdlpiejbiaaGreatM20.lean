/- Walks and plain laws, a part of the proof of PnmTwice: every input that the law's guards let in, no condition beside. -/
import Derived.Test.YtggamdlpiejbiaaGreatM19
namespace Go.Proofs.YtggamdlpiejbiaaGreat
open Go.RowKit Go.Shelf

theorem Zu (a b d : Int) : Fn Tryz.prog 102 #[.agg #[.int .i64 a, .int .i64 b, .int .i64 d]] [] (fun v l => ∃ gl, v = .slice (some ⟨gl, 0, none⟩) 3 3 ∧ l = [QD gl [.int .i64 (QG a), .int .i64 (QH b), .int .i64 (QI d)] 3]) := by
 refine Qo (vs := [.agg #[.int .i64 a, .int .i64 b, .int .i64 d]]) Tryz.func102 rfl Tryz.ntmps102 rfl (Qb (Qa (Xf rfl rfl rfl ?_)))
 intro g1
 refine Qd rfl rfl (WpL.nil (Qb (Qa (Qj (o2 := 0) rfl rfl rfl (Qm rfl rfl (by rfl) ?_)))))
 refine s_max2 rfl rfl rfl (s_min2 rfl rfl rfl (Qj (o2 := 1) rfl rfl rfl (Qm rfl rfl (by rfl) ?_)))
 refine s_max2 rfl rfl rfl (s_min2 rfl rfl rfl (Qj (o2 := 2) rfl rfl rfl (Qm rfl rfl (by rfl) ?_)))
 refine s_max2 rfl rfl rfl (s_min2 rfl rfl rfl ?_)
 refine s_bs3 rfl rfl rfl rfl rfl rfl rfl rfl ?_
 intro g2
 refine Qd rfl rfl (WpL.nil (Qg ?_))
 apply RetQ.mk
 ·exact (Res.one rfl rfl)
 ·exact ⟨_, rfl, rfl⟩
 ·exact Take.ent' (by repeat' constructor)

set_option maxHeartbeats 2000000 in
theorem rParse_A (a b d : Int) (s : ByteArray) (h : s.size = 0) : Fn Tryz.prog 56 #[.string s, .agg #[.int .i64 a, .int .i64 b, .int .i64 d]] [] (fun v l => ∃ K W H M n e, ((K, W, H, M), n, e) = hdP (QG a) (QH b) (QI d) (QZ s) ∧ v = .tuple #[.agg #[.int .i64 K, .int .i64 W, .int .i64 H, .int .i64 M], .int .i64 n, .int .i64 e] ∧ l = []) := by
 have hnil : QZ s = [] := List.eq_nil_of_length_eq_zero (by rw [Xa]; exact h)
 refine Qo (vs := [.string s, .agg #[.int .i64 a, .int .i64 b, .int .i64 d]]) Tryz.func56 rfl Tryz.ntmps56 rfl (Qb (Qa (Xf rfl rfl rfl ?_)))
 intro g1
 refine X6 rfl ?_
 intro g2
 refine Qd rfl rfl (Qd rfl rfl (WpL.nil (Qb (Qb (Qa (Qc rfl rfl (XE rfl Tryz.underlying9 rfl (XJ rfl rfl rfl (Qc rfl rfl (QM (dj := 19) rfl (decide_eq_false (by omega)) ?_))))))))))
 refine Qe rfl rfl rfl (by decide) (Qe rfl rfl rfl (by decide) (Qe rfl rfl rfl (by decide) (Qu rfl rfl rfl (WpL.nil (QS rfl (Wp.skip (Qb (Qb (Qa (Qc rfl rfl (XE rfl Tryz.underlying9 rfl (XJ rfl rfl rfl ?_))))))))))))
 refine Qc rfl rfl (QM (dj := 28) rfl (decide_eq_false (by omega)) ?_)
 refine Qe rfl rfl rfl (by decide) (Qe rfl rfl rfl (by decide) (Qe rfl rfl rfl (by decide) (Qe rfl rfl rfl (by decide) (Q6 rfl rfl rfl (Q6 rfl rfl rfl (Q6 rfl rfl rfl (Qe rfl rfl rfl (by decide) (Qu rfl rfl rfl (WpL.nil (QS rfl (Wp.skip (Qb ?_))))))))))))
 refine Qb (Qa (Qc rfl rfl (XE rfl Tryz.underlying9 rfl (XJ rfl rfl rfl (Qc rfl rfl (QM (dj := 42) rfl (decide_eq_false (by omega)) ?_))))))
 refine Qe rfl rfl rfl (by decide) (Qe rfl rfl rfl (by decide) (Qe rfl rfl rfl (by decide) (Qu rfl rfl rfl (Qc rfl rfl (Qe rfl rfl rfl (by decide) (Qe rfl rfl rfl (by decide) (Qe rfl rfl rfl (by decide) (Qe rfl rfl rfl (by decide) (Qu rfl rfl rfl (WpL.nil (QS rfl (Wp.skip ?_))))))))))))
 refine Qb (Qb (Qa (Qc rfl rfl (XE rfl Tryz.underlying9 rfl (Xc rfl rfl rfl (WpL.nil (Q1 rfl (by omega) ?_)))))))
 refine Qb (Qa ?_)
 refine Xl rfl rfl ?_
 refine Qc rfl rfl (XE rfl Tryz.underlying9 rfl ?_)
 refine QE rfl rfl rfl (by rfl) rfl ?_
 refine Qd rfl rfl (Qd rfl rfl (WpL.nil (Qg ?_)))
 apply RetQ.mk
 ·exact (QY rfl rfl (by rfl) rfl rfl)
 ·exact ⟨0, 0, 0, 0, _, _, by rw [hnil, hdP_s0, h]; rfl, rfl, rfl⟩
 ·exact Ent.nil _

set_option maxHeartbeats 2000000 in
theorem rParse_B (a b d : Int) (s : ByteArray) (h : 1 ≤ s.size) (h80 : ((s[0]'(by omega)).toNat : Int) ≠ 80) : Fn Tryz.prog 56 #[.string s, .agg #[.int .i64 a, .int .i64 b, .int .i64 d]] [] (fun v l => ∃ K W H M n e, ((K, W, H, M), n, e) = hdP (QG a) (QH b) (QI d) (QZ s) ∧ v = .tuple #[.agg #[.int .i64 K, .int .i64 W, .int .i64 H, .int .i64 M], .int .i64 n, .int .i64 e] ∧ l = []) := by
 have hbs : QZ s = ((s[0]'(by omega)).toNat : Int) :: (QZ s).drop 1 := by have := XL (s := s) (k := 0) (by omega); simpa using this
 refine Qo (vs := [.string s, .agg #[.int .i64 a, .int .i64 b, .int .i64 d]]) Tryz.func56 rfl Tryz.ntmps56 rfl (Qb (Qa (Xf rfl rfl rfl ?_)))
 intro g1
 refine X6 rfl ?_
 intro g2
 refine Qd rfl rfl (Qd rfl rfl (WpL.nil (Qb (Qb (Qa (Qc rfl rfl (XE rfl Tryz.underlying9 rfl (XJ rfl rfl rfl (Qc rfl rfl (QB (dj := 19) rfl (decide_eq_true (by omega)) ?_))))))))))
 refine Qf rfl rfl (Qc rfl rfl (Qf rfl rfl (Yr rfl Tryz.underlying9 rfl rfl (by omega) (by omega) ?_)))
 refine Qf rfl rfl (Xu rfl rfl rfl (Qr rfl rfl rfl (WpL.nil (Q1 rfl h80 (Qb (Qa ?_))))))
 refine Xl rfl rfl ?_
 refine QE rfl rfl rfl (by rfl) rfl ?_
 refine Qd rfl rfl (Qd rfl rfl (WpL.nil (Qg ?_)))
 apply RetQ.mk
 ·exact (QY rfl rfl (by rfl) rfl rfl)
 ·exact ⟨0, 0, 0, 0, _, _, by rw [hbs, hdP_0 _ _ _ h80], rfl, rfl⟩
 ·exact Ent.nil _

set_option maxHeartbeats 2000000 in
theorem rParse_C (a b d : Int) (s : ByteArray) (h : s.size = 1) (h80 : ((s[0]'(by omega)).toNat : Int) = 80) : Fn Tryz.prog 56 #[.string s, .agg #[.int .i64 a, .int .i64 b, .int .i64 d]] [] (fun v l => ∃ K W H M n e, ((K, W, H, M), n, e) = hdP (QG a) (QH b) (QI d) (QZ s) ∧ v = .tuple #[.agg #[.int .i64 K, .int .i64 W, .int .i64 H, .int .i64 M], .int .i64 n, .int .i64 e] ∧ l = []) := by
 have hbs : QZ s = ((s[0]'(by omega)).toNat : Int) :: (QZ s).drop 1 := by have := XL (s := s) (k := 0) (by omega); simpa using this
 have hnil : (QZ s).drop 1 = [] := List.drop_of_length_le (by rw [Xa]; omega)
 refine Qo (vs := [.string s, .agg #[.int .i64 a, .int .i64 b, .int .i64 d]]) Tryz.func56 rfl Tryz.ntmps56 rfl (Qb (Qa (Xf rfl rfl rfl ?_)))
 intro g1
 refine X6 rfl ?_
 intro g2
 refine Qd rfl rfl (Qd rfl rfl (WpL.nil (Qb (Qb (Qa (Qc rfl rfl (XE rfl Tryz.underlying9 rfl (XJ rfl rfl rfl (Qc rfl rfl (QB (dj := 19) rfl (decide_eq_true (by omega)) ?_))))))))))
 refine Qf rfl rfl (Qc rfl rfl (Qf rfl rfl (Yr rfl Tryz.underlying9 rfl rfl (by omega) (by omega) ?_)))
 refine Qf rfl rfl (Xu rfl rfl rfl (Qr rfl rfl rfl (WpL.nil (QA rfl (fun h => h h80) ?_))))
 refine Wp.skip (Qb (Qb (Qa (Qc rfl rfl (XE rfl Tryz.underlying9 rfl (XJ rfl rfl rfl (Qc rfl rfl (QM (dj := 28) rfl (decide_eq_false (by omega)) ?_))))))))
 refine Qe rfl rfl rfl (by decide) (Qe rfl rfl rfl (by decide) (Qe rfl rfl rfl (by decide) (Qe rfl rfl rfl (by decide) (Q6 rfl rfl rfl (Q6 rfl rfl rfl (Q6 rfl rfl rfl (Qe rfl rfl rfl (by decide) (Qu rfl rfl rfl (WpL.nil (QS rfl (Wp.skip (Qb ?_))))))))))))
 refine Qb (Qa (Qc rfl rfl (XE rfl Tryz.underlying9 rfl (XJ rfl rfl rfl (Qc rfl rfl (QM (dj := 42) rfl (decide_eq_false (by omega)) ?_))))))
 refine Qe rfl rfl rfl (by decide) (Qe rfl rfl rfl (by decide) (Qe rfl rfl rfl (by decide) (Qu rfl rfl rfl (Qc rfl rfl (Qe rfl rfl rfl (by decide) (Qe rfl rfl rfl (by decide) (Qe rfl rfl rfl (by decide) (Qe rfl rfl rfl (by decide) (Qu rfl rfl rfl (WpL.nil (QS rfl (Wp.skip ?_))))))))))))
 refine Qb (Qb (Qa (Qc rfl rfl (XE rfl Tryz.underlying9 rfl (Xc rfl rfl rfl (WpL.nil (Q1 rfl (by omega) ?_)))))))
 refine Qb (Qa ?_)
 refine Xl rfl rfl ?_
 refine Qc rfl rfl (XE rfl Tryz.underlying9 rfl ?_)
 refine QE rfl rfl rfl (by rfl) rfl ?_
 refine Qd rfl rfl (Qd rfl rfl (WpL.nil (Qg ?_)))
 apply RetQ.mk
 ·exact (QY rfl rfl (by rfl) rfl rfl)
 ·exact ⟨0, 0, 0, 0, _, _, by rw [hbs, hnil, hdP_s1 _ _ _ h80, h]; rfl, rfl, rfl⟩
 ·exact Ent.nil _

set_option maxHeartbeats 2000000 in
theorem rParse_D (a b d : Int) (s : ByteArray) (h : 2 ≤ s.size) (h80 : ((s[0]'(by omega)).toNat : Int) = 80) (h1 : ((s[1]'(by omega)).toNat : Int) < 49 ∨ ((s[1]'(by omega)).toNat : Int) > 54) : Fn Tryz.prog 56 #[.string s, .agg #[.int .i64 a, .int .i64 b, .int .i64 d]] [] (fun v l => ∃ K W H M n e, ((K, W, H, M), n, e) = hdP (QG a) (QH b) (QI d) (QZ s) ∧ v = .tuple #[.agg #[.int .i64 K, .int .i64 W, .int .i64 H, .int .i64 M], .int .i64 n, .int .i64 e] ∧ l = []) := by
 have hbs : QZ s = ((s[0]'(by omega)).toNat : Int) :: (QZ s).drop 1 := by have := XL (s := s) (k := 0) (by omega); simpa using this
 have hbs1 : (QZ s).drop 1 = ((s[1]'(by omega)).toNat : Int) :: (QZ s).drop 2 := XL (by omega)
 refine Qo (vs := [.string s, .agg #[.int .i64 a, .int .i64 b, .int .i64 d]]) Tryz.func56 rfl Tryz.ntmps56 rfl (Qb (Qa (Xf rfl rfl rfl ?_)))
 intro g1
 refine X6 rfl ?_
 intro g2
 refine Qd rfl rfl (Qd rfl rfl (WpL.nil (Qb (Qb (Qa (Qc rfl rfl (XE rfl Tryz.underlying9 rfl (XJ rfl rfl rfl (Qc rfl rfl (QB (dj := 19) rfl (decide_eq_true (by omega)) ?_))))))))))
 refine Qf rfl rfl (Qc rfl rfl (Qf rfl rfl (Yr rfl Tryz.underlying9 rfl rfl (by omega) (by omega) ?_)))
 refine Qf rfl rfl (Xu rfl rfl rfl (Qr rfl rfl rfl (WpL.nil (QA rfl (fun h => h h80) ?_))))
 refine Wp.skip (Qb (Qb (Qa (Qc rfl rfl (XE rfl Tryz.underlying9 rfl (XJ rfl rfl rfl (Qc rfl rfl (QB (dj := 28) rfl (decide_eq_true (by omega)) ?_))))))))
 refine Qf rfl rfl (Qc rfl rfl (Qf rfl rfl (Yr rfl Tryz.underlying9 rfl rfl (by omega) (by omega) ?_)))
 refine Qf rfl rfl (Xc rfl rfl rfl (Qf rfl rfl (Qc rfl rfl (QP rfl rfl rfl (fun hg3 => ?_) (fun hg3 => ?_)))))
 ·have hg3 := of_decide_eq_false hg3
  refine Qc rfl rfl (Qf rfl rfl (Yr rfl Tryz.underlying9 rfl rfl (by omega) (by omega) ?_))
  refine Qf rfl rfl (XJ rfl rfl rfl (Qf rfl rfl (Qu rfl rfl rfl (Qr rfl rfl rfl (WpL.nil (Q1 rfl (h1.resolve_left hg3) (Qb (Qa ?_))))))))
  refine Xl rfl rfl ?_
  refine QE rfl rfl rfl (by rfl) rfl ?_
  refine Qd rfl rfl (Qd rfl rfl (WpL.nil (Qg ?_)))
  apply RetQ.mk
  ·exact (QY rfl rfl (by rfl) rfl rfl)
  ·exact ⟨0, 0, 0, 0, _, _, by rw [hbs, hbs1, hdP_1 _ _ _ h80 h1], rfl, rfl⟩
  ·exact Ent.nil _
 ·have hg3 := of_decide_eq_true hg3
  refine Qe rfl rfl rfl (by decide) (Qe rfl rfl rfl (by decide) (Qf rfl rfl (Qr rfl rfl rfl (Qr rfl rfl rfl (WpL.nil (Xg rfl (Qb (Qa ?_))))))))
  refine Xl rfl rfl ?_
  refine QE rfl rfl rfl (by rfl) rfl ?_
  refine Qd rfl rfl (Qd rfl rfl (WpL.nil (Qg ?_)))
  apply RetQ.mk
  ·exact (QY rfl rfl (by rfl) rfl rfl)
  ·exact ⟨0, 0, 0, 0, _, _, by rw [hbs, hbs1, hdP_1 _ _ _ h80 h1], rfl, rfl⟩
  ·exact Ent.nil _

set_option maxHeartbeats 2000000 in
theorem rParse_E (a b d : Int) (s : ByteArray) (h : s.size = 2) (h80 : ((s[0]'(by omega)).toNat : Int) = 80) (h1a : ¬ ((s[1]'(by omega)).toNat : Int) < 49) (h1b : ¬ ((s[1]'(by omega)).toNat : Int) > 54) : Fn Tryz.prog 56 #[.string s, .agg #[.int .i64 a, .int .i64 b, .int .i64 d]] [] (fun v l => ∃ K W H M n e, ((K, W, H, M), n, e) = hdP (QG a) (QH b) (QI d) (QZ s) ∧ v = .tuple #[.agg #[.int .i64 K, .int .i64 W, .int .i64 H, .int .i64 M], .int .i64 n, .int .i64 e] ∧ l = []) := by
 have hbs : QZ s = ((s[0]'(by omega)).toNat : Int) :: (QZ s).drop 1 := by have := XL (s := s) (k := 0) (by omega); simpa using this
 have hbs1 : (QZ s).drop 1 = ((s[1]'(by omega)).toNat : Int) :: (QZ s).drop 2 := XL (by omega)
 have hnil : (QZ s).drop 2 = [] := List.drop_of_length_le (by rw [Xa]; omega)
 have h1c : 49 ≤ ((s[1]'(by omega)).toNat : Int) ∧ ((s[1]'(by omega)).toNat : Int) ≤ 54 := ⟨by omega, by omega⟩
 refine Qo (vs := [.string s, .agg #[.int .i64 a, .int .i64 b, .int .i64 d]]) Tryz.func56 rfl Tryz.ntmps56 rfl (Qb (Qa (Xf rfl rfl rfl ?_)))
 intro g1
 refine X6 rfl ?_
 intro g2
 refine Qd rfl rfl (Qd rfl rfl (WpL.nil (Qb (Qb (Qa (Qc rfl rfl (XE rfl Tryz.underlying9 rfl (XJ rfl rfl rfl (Qc rfl rfl (QB (dj := 19) rfl (decide_eq_true (by omega)) ?_))))))))))
 refine Qf rfl rfl (Qc rfl rfl (Qf rfl rfl (Yr rfl Tryz.underlying9 rfl rfl (by omega) (by omega) ?_)))
 refine Qf rfl rfl (Xu rfl rfl rfl (Qr rfl rfl rfl (WpL.nil (QA rfl (fun h => h h80) ?_))))
 refine Wp.skip (Qb (Qb (Qa (Qc rfl rfl (XE rfl Tryz.underlying9 rfl (XJ rfl rfl rfl (Qc rfl rfl (QB (dj := 28) rfl (decide_eq_true (by omega)) ?_))))))))
 refine Qf rfl rfl (Qc rfl rfl (Qf rfl rfl (Yr rfl Tryz.underlying9 rfl rfl (by omega) (by omega) ?_)))
 refine Qf rfl rfl (Xc rfl rfl rfl (Qf rfl rfl (Qc rfl rfl (QM (dj := 32) rfl (decide_eq_false h1a) ?_))))
 refine Qf rfl rfl (Qc rfl rfl (Qf rfl rfl (Yr rfl Tryz.underlying9 rfl rfl (by omega) (by omega) ?_)))
 refine Qf rfl rfl (XJ rfl rfl rfl (Qf rfl rfl (Qu rfl rfl rfl (Qr rfl rfl rfl (WpL.nil (QA rfl h1b (Wp.skip (Qb (Qb (Qa (Qc rfl rfl (XE rfl Tryz.underlying9 rfl ?_))))))))))))
 refine XJ rfl rfl rfl (Qc rfl rfl (QM (dj := 42) rfl (decide_eq_false (by omega)) ?_))
 refine Qe rfl rfl rfl (by decide) (Qe rfl rfl rfl (by decide) (Qe rfl rfl rfl (by decide) (Qu rfl rfl rfl (Qc rfl rfl (Qe rfl rfl rfl (by decide) (Qe rfl rfl rfl (by decide) (Qe rfl rfl rfl (by decide) (Qe rfl rfl rfl (by decide) (Qu rfl rfl rfl (WpL.nil (QS rfl (Wp.skip ?_))))))))))))
 refine Qb (Qb (Qa (Qc rfl rfl (XE rfl Tryz.underlying9 rfl (Xc rfl rfl rfl (WpL.nil (Q1 rfl (by omega) ?_)))))))
 refine Qb (Qa ?_)
 refine Xl rfl rfl ?_
 refine Qc rfl rfl (XE rfl Tryz.underlying9 rfl ?_)
 refine QE rfl rfl rfl (by rfl) rfl ?_
 refine Qd rfl rfl (Qd rfl rfl (WpL.nil (Qg ?_)))
 apply RetQ.mk
 ·exact (QY rfl rfl (by rfl) rfl rfl)
 ·exact ⟨0, 0, 0, 0, _, _, by rw [hbs, hbs1, hnil, hdP_s2 _ _ _ h80 h1c, h]; rfl, rfl, rfl⟩
 ·exact Ent.nil _

set_option maxHeartbeats 2000000 in
theorem rParse_F (a b d : Int) (s : ByteArray) (h : 3 ≤ s.size) (h80 : ((s[0]'(by omega)).toNat : Int) = 80) (h1a : ¬ ((s[1]'(by omega)).toNat : Int) < 49) (h1b : ¬ ((s[1]'(by omega)).toNat : Int) > 54) (h2 : ((s[2]'(by omega)).toNat : Int) ≠ 35) (h2b : Q8 ((s[2]'(by omega)).toNat : Int) = false) : Fn Tryz.prog 56 #[.string s, .agg #[.int .i64 a, .int .i64 b, .int .i64 d]] [] (fun v l => ∃ K W H M n e, ((K, W, H, M), n, e) = hdP (QG a) (QH b) (QI d) (QZ s) ∧ v = .tuple #[.agg #[.int .i64 K, .int .i64 W, .int .i64 H, .int .i64 M], .int .i64 n, .int .i64 e] ∧ l = []) := by
 have hbs : QZ s = ((s[0]'(by omega)).toNat : Int) :: (QZ s).drop 1 := by have := XL (s := s) (k := 0) (by omega); simpa using this
 have hbs1 : (QZ s).drop 1 = ((s[1]'(by omega)).toNat : Int) :: (QZ s).drop 2 := XL (by omega)
 have hbs2 : (QZ s).drop 2 = ((s[2]'(by omega)).toNat : Int) :: (QZ s).drop 3 := XL (by omega)
 have h1c : 49 ≤ ((s[1]'(by omega)).toNat : Int) ∧ ((s[1]'(by omega)).toNat : Int) ≤ 54 := ⟨by omega, by omega⟩
 refine Qo (vs := [.string s, .agg #[.int .i64 a, .int .i64 b, .int .i64 d]]) Tryz.func56 rfl Tryz.ntmps56 rfl (Qb (Qa (Xf rfl rfl rfl ?_)))
 intro g1
 refine X6 rfl ?_
 intro g2
 refine Qd rfl rfl (Qd rfl rfl (WpL.nil (Qb (Qb (Qa (Qc rfl rfl (XE rfl Tryz.underlying9 rfl (XJ rfl rfl rfl (Qc rfl rfl (QB (dj := 19) rfl (decide_eq_true (by omega)) ?_))))))))))
 refine Qf rfl rfl (Qc rfl rfl (Qf rfl rfl (Yr rfl Tryz.underlying9 rfl rfl (by omega) (by omega) ?_)))
 refine Qf rfl rfl (Xu rfl rfl rfl (Qr rfl rfl rfl (WpL.nil (QA rfl (fun h => h h80) ?_))))
 refine Wp.skip (Qb (Qb (Qa (Qc rfl rfl (XE rfl Tryz.underlying9 rfl (XJ rfl rfl rfl (Qc rfl rfl (QB (dj := 28) rfl (decide_eq_true (by omega)) ?_))))))))
 refine Qf rfl rfl (Qc rfl rfl (Qf rfl rfl (Yr rfl Tryz.underlying9 rfl rfl (by omega) (by omega) ?_)))
 refine Qf rfl rfl (Xc rfl rfl rfl (Qf rfl rfl (Qc rfl rfl (QM (dj := 32) rfl (decide_eq_false h1a) ?_))))
 refine Qf rfl rfl (Qc rfl rfl (Qf rfl rfl (Yr rfl Tryz.underlying9 rfl rfl (by omega) (by omega) ?_)))
 refine Qf rfl rfl (XJ rfl rfl rfl (Qf rfl rfl (Qu rfl rfl rfl (Qr rfl rfl rfl (WpL.nil (QA rfl h1b (Wp.skip (Qb (Qb (Qa (Qc rfl rfl (XE rfl Tryz.underlying9 rfl ?_))))))))))))
 refine XJ rfl rfl rfl (Qc rfl rfl (QB (dj := 42) rfl (decide_eq_true (by omega)) ?_))
 refine Qf rfl rfl (Qc rfl rfl (Qf rfl rfl (Yr rfl Tryz.underlying9 rfl rfl (by omega) (by omega) ?_)))
 refine Qf rfl rfl (Xu rfl rfl rfl (Qr rfl rfl rfl (Qc rfl rfl (QB (dj := 47) rfl (decide_eq_true h2) ?_))))
 refine Qf rfl rfl (Qc rfl rfl (Qf rfl rfl (Yr rfl Tryz.underlying9 rfl rfl (by omega) (by omega) ?_)))
 refine Qf rfl rfl (Qk rfl rfl (by repeat' constructor) (X2 _) ?_)
 rintro _ _ ⟨rfl, rfl⟩
 simp only [Qv]
 refine Qf rfl rfl (ZR rfl rfl (Qr rfl rfl rfl (WpL.nil (Wp.condBT rfl (by exact congrArg (! ·) h2b) ?_))))
 refine Qb (Qa ?_)
 refine Xl rfl rfl ?_
 refine QE rfl rfl rfl (by rfl) rfl ?_
 refine Qd rfl rfl (Qd rfl rfl (WpL.nil (Qg ?_)))
 apply RetQ.mk
 ·exact (QY rfl rfl (by rfl) rfl rfl)
 ·exact ⟨0, 0, 0, 0, _, _, by rw [hbs, hbs1, hbs2, hdP_2 _ _ _ h80 h1c ⟨h2b, h2⟩], rfl, rfl⟩
 ·exact Ent.nil _


structure PaX where
  (i at_ : Nat) (W H M : Int)
structure PbX where
  (k : Int) (at_ : Nat) (t : TS)
theorem lsel_lim (a b d : Int) (i : Nat) (h : i < 3) : [Value.int .i64 (QG a), .int .i64 (QH b), .int .i64 (QI d)][i]? = some (.int .i64 (Q0 (QG a) (QH b) (QI d) i)) := by
  obtain rfl | rfl | rfl : i = 0 ∨ i = 1 ∨ i = 2 := by omega
  all_goals rfl
theorem YU (a b d : Int) (i : Int) : 0 ≤ Q0 (QG a) (QH b) (QI d) i ∧ Q0 (QG a) (QH b) (QI d) i ≤ 1000000 := by
  have := lim_o a b d
  have h1 := this.a
  have h2 := this.b
  have h3 := this.c
  unfold Q0
  split
  · omega
  · split <;> omega
theorem ZN {most : Int} {t : TS} {c : Int} {bs : List Int} {n : Int} {r : TS × Int × Int} (h : r = Xe most t (c :: bs) n) : r = if (QC most t c).2 = 0 then Xe most (QC most t c).1 bs (n + 1) else ((QC most t c).1, (QC most t c).2, n + 1) := by
  rw [h, Xe]
  by_cases h0 : (QC most t c).2 = 0
  · rw [if_neg (fun q => q h0), if_pos h0]
  · rw [if_pos h0, if_neg h0]

set_option maxHeartbeats 2000000 in
theorem rParse_G (a b d : Int) (s : ByteArray) (h : 3 ≤ s.size) (h80 : ((s[0]'(by omega)).toNat : Int) = 80) (h1a : ¬ ((s[1]'(by omega)).toNat : Int) < 49) (h1b : ¬ ((s[1]'(by omega)).toNat : Int) > 54) (h2 : Q8 ((s[2]'(by omega)).toNat : Int) = true ∨ ((s[2]'(by omega)).toNat : Int) = 35) (hsz : s.size ≤ 1000000000000) : Fn Tryz.prog 56 #[.string s, .agg #[.int .i64 a, .int .i64 b, .int .i64 d]] [] (fun v l => ∃ K W H M n e, ((K, W, H, M), n, e) = hdP (QG a) (QH b) (QI d) (QZ s) ∧ v = .tuple #[.agg #[.int .i64 K, .int .i64 W, .int .i64 H, .int .i64 M], .int .i64 n, .int .i64 e] ∧ l = []) := by
 have hbs : QZ s = ((s[0]'(by omega)).toNat : Int) :: (QZ s).drop 1 := by have := XL (s := s) (k := 0) (by omega); simpa using this
 have hbs1 : (QZ s).drop 1 = ((s[1]'(by omega)).toNat : Int) :: (QZ s).drop 2 := XL (by omega)
 have hbs2 : (QZ s).drop 2 = ((s[2]'(by omega)).toNat : Int) :: (QZ s).drop 3 := XL (by omega)
 have h1c : 49 ≤ ((s[1]'(by omega)).toNat : Int) ∧ ((s[1]'(by omega)).toNat : Int) ≤ 54 := ⟨by omega, by omega⟩
 refine Qo (vs := [.string s, .agg #[.int .i64 a, .int .i64 b, .int .i64 d]]) Tryz.func56 rfl Tryz.ntmps56 rfl (Qb (Qa (Xf rfl rfl rfl ?_)))
 intro g1
 refine X6 rfl ?_
 intro gO
 refine Qd rfl rfl (Qd rfl rfl (WpL.nil (Qb (Qb (Qa (Qc rfl rfl (XE rfl Tryz.underlying9 rfl (XJ rfl rfl rfl (Qc rfl rfl (QB (dj := 19) rfl (decide_eq_true (by omega)) ?_))))))))))
 refine Qf rfl rfl (Qc rfl rfl (Qf rfl rfl (Yr rfl Tryz.underlying9 rfl rfl (by omega) (by omega) ?_)))
 refine Qf rfl rfl (Xu rfl rfl rfl (Qr rfl rfl rfl (WpL.nil (QA rfl (fun h => h h80) ?_))))
 refine Wp.skip (Qb (Qb (Qa (Qc rfl rfl (XE rfl Tryz.underlying9 rfl (XJ rfl rfl rfl (Qc rfl rfl (QB (dj := 28) rfl (decide_eq_true (by omega)) ?_))))))))
 refine Qf rfl rfl (Qc rfl rfl (Qf rfl rfl (Yr rfl Tryz.underlying9 rfl rfl (by omega) (by omega) ?_)))
 refine Qf rfl rfl (Xc rfl rfl rfl (Qf rfl rfl (Qc rfl rfl (QM (dj := 32) rfl (decide_eq_false h1a) ?_))))
 refine Qf rfl rfl (Qc rfl rfl (Qf rfl rfl (Yr rfl Tryz.underlying9 rfl rfl (by omega) (by omega) ?_)))
 refine Qf rfl rfl (XJ rfl rfl rfl (Qf rfl rfl (Qu rfl rfl rfl (Qr rfl rfl rfl (WpL.nil (QA rfl h1b (Wp.skip (Qb (Qb (Qa (Qc rfl rfl (XE rfl Tryz.underlying9 rfl ?_))))))))))))
 refine XJ rfl rfl rfl (Qc rfl rfl (QB (dj := 42) rfl (decide_eq_true (by omega)) ?_))
 refine Qf rfl rfl (Qc rfl rfl (Qf rfl rfl (Yr rfl Tryz.underlying9 rfl rfl (by omega) (by omega) ?_)))
 refine Qf rfl rfl (Xu rfl rfl rfl (Qr rfl rfl rfl (Qc rfl rfl (QP rfl rfl rfl (fun hg5 => ?_) (fun hg5 => ?_)))))
 ·have hg5 := of_decide_eq_true hg5
  refine Qc rfl rfl (Qf rfl rfl (Yr rfl Tryz.underlying9 rfl rfl (by omega) (by omega) ?_))
  refine Qf rfl rfl (Qk rfl rfl (by repeat' constructor) (X2 _) ?_)
  rintro _ _ ⟨rfl, rfl⟩
  simp only [Qv]
  refine Qf rfl rfl (ZR rfl rfl (Qr rfl rfl rfl (WpL.nil (ZY rfl (by exact congrArg (! ·) (h2.resolve_right hg5)) ?_))))
  refine Wp.skip (Qb (Qb (Qa (Qc rfl rfl (XE rfl Tryz.underlying9 rfl (Xc rfl rfl rfl (WpL.nil (QA rfl (by omega) ?_))))))))
  refine Wp.skip (Qb (Qa (Qc rfl rfl (Yr rfl Tryz.underlying9 rfl rfl (by omega) (by omega) ?_))))
  have hu1 := u8_lt (s[1]'(by omega))
  change WpL _ _ _ _ _ _ ((61, Value.int .u8 ((s[1]'(by omega)).toNat : Int)) :: _) _
  refine Yk rfl Tryz.underlying5 rfl (Qp (by omega) (by omega)) ?_
  refine Zr rfl rfl rfl (Qp (by omega) (by omega)) ?_
  change WpL _ _ _ _ _ _ ((63, Value.int .i64 (((s[1]'(by omega)).toNat : Int) - 48)) :: _) _
  have hp0 := hdP_3 (QG a) (QH b) (QI d) (bs := (QZ s).drop 3) (lim_o a b d).a.1 h80 h1c h2
  rw [← hbs2, ← hbs1, ← hbs] at hp0
  have hK0 : 1 ≤ ((s[1]'(by omega)).toNat : Int) - 48 ∧ ((s[1]'(by omega)).toNat : Int) - 48 ≤ 6 := by omega
  generalize ((s[1]'(by omega)).toNat : Int) - 48 = K at hp0 hK0 ⊢
  have hpar : ∀ M, parI (QG a) (QH b) (QI d) K (QZ s) 0 2 0 0 M := fun M => by unfold parI; rw [if_neg (by omega)]; exact hp0
  refine Xl rfl rfl ?_
  refine X6 rfl ?_
  intro gH
  refine QE rfl rfl rfl (by rfl) rfl ?_
  refine WpL.nil (Qb (Qa (Qd rfl rfl (WpL.nil (Qb (Qb (Qa (Qj (o2 := 0) rfl rfl rfl (Qm rfl rfl (by rfl) ?_)))))))))
  refine Qk rfl rfl (by repeat' constructor) (Vk _) ?_
  rintro _ _ ⟨rfl, rfl⟩
  simp only [Qv]
  refine WpL.nil (Qh rfl (fun h4 => ?_) (fun h4 => ?_))
  ·refine Qb (Qa (Qd rfl rfl (WpL.nil (Qa (Qj (o2 := 3) rfl rfl rfl (QN rfl rfl rfl (WpL.nil (Qb (Qa ?_)))))))))
   refine Qz (vs := [_, _, _]) rfl rfl rfl (by rfl) ?_
   refine Qk rfl rfl (by repeat' constructor) (Zu _ _ _) ?_
   rintro _ _ ⟨gl, rfl, rfl⟩
   simp only [Qv]
   refine Qd rfl rfl (WpL.nil (Qb (Qa (Qd rfl rfl (WpL.nil (Qb (Qb (Qa (Qd rfl rfl (WpL.nil (Wp.block ?_)))))))))))
   refine Wp.loopD (σ := PaX) (fun x => x.at_ ≤ s.size ∧ x.i ≤ 3 ∧ (XZ K → x.i ≤ 2 ∧ x.M = 1) ∧ parI (QG a) (QH b) (QI d) K (QZ s) x.i x.at_ x.W x.H x.M) [5, 6, 10, 11, 12, 13, 14, 15, 71, 72, 73, 74, 75, 76, 77, 78, 79, 80, 81, 82, 83, 84, 85, 86, 87, 88, 89, 90, 91, 92, 93, 94, 95, 96, 97, 98, 99, 100, 101, 102, 103, 104, 105, 106, 107, 108, 109, 110, 111, 112, 113, 114, 115, 116, 117, 118, 119, 120, 121, 122, 123, 124, 125, 126, 127, 128, 129] (fun x => [(11, .int .i64 (x.i : Int)), (10, .int .i64 (x.at_ : Int))]) (fun x => [QD gH [.int .i64 K, .int .i64 x.W, .int .i64 x.H, .int .i64 x.M] 113, QD gl [.int .i64 (QG a), .int .i64 (QH b), .int .i64 (QI d)] 3, QD gO [.int .i64 0, .int .i64 0, .int .i64 0, .int .i64 0] 113]) (fun x => 3 - x.i) ⟨0, 2, 0, 0, (if XZ K then 1 else 0)⟩ ?_ (by repeat (first | exact FrLe.nil | refine FrLe.cons rfl ?_)) ?_ ?_
   ·exact ⟨by simp only; omega, by simp, fun hb => ⟨by simp, by simp only; rw [if_pos hb]⟩, hpar _⟩
   ·(rw [show (if XZ K then (1 : Int) else 0) = 1 from if_pos h4]; exact Take.ent' (by repeat' constructor))
   ·rintro ⟨i, at_, W, H, M⟩ ⟨hat, hi3, hbk, hpi⟩
    dsimp only at hat hi3 hbk hpi ⊢
    refine Qb (Qb (Qa (Qc rfl rfl (Qc rfl rfl (Xc rfl rfl rfl (WpL.nil (Qh rfl (fun h6 => ?_) (fun h6 => ?_))))))))
    ·have hi : i < 3 := by omega
     refine Wp.skip (Qb (Wp.block ?_))
     refine Qb (Qa (Qc rfl rfl (Qc rfl rfl (Xs i rfl rfl rfl (RdsL.blk (o := 0) (xs := [.int .i64 (QG a), .int .i64 (QH b), .int .i64 (QI d)]) rfl) (by exact Take.ent' (by repeat' constructor)) rfl (by omega) (by simp only [List.length_cons, List.length_nil]; omega) ?_))))
     refine Xv rfl rfl (RdsL.blk (o := 0) (xs := [.int .i64 (QG a), .int .i64 (QH b), .int .i64 (QI d)]) rfl) (by exact Take.ent' (by repeat' constructor)) (lsel_lim a b d i hi) ?_
     refine Qk rfl rfl (by repeat' constructor) (ZO _) ?_
     rintro _ _ ⟨rfl, rfl⟩
     simp only [Qv]
     refine X6 rfl ?_
     intro gN
     refine QE rfl rfl rfl (by rfl) rfl ?_
     refine WpL.nil (Qb (Qa (Qd rfl rfl (WpL.nil (Qb (Wp.block ?_))))))
     refine Wp.loopD (σ := PbX) (fun y => at_ ≤ y.at_ ∧ y.at_ ≤ s.size ∧ (y.k = 0 → Yx (Q0 (QG a) (QH b) (QI d) i) y.t) ∧ Xe (Q0 (QG a) (QH b) (QI d) i) X8 ((QZ s).drop at_) at_ = (if y.k = 0 then Xe (Q0 (QG a) (QH b) (QI d) i) y.t ((QZ s).drop y.at_) y.at_ else (y.t, y.k, (y.at_ : Int)))) [10, 13, 14, 15, 81, 82, 83, 84, 85, 86, 87, 88, 89, 90, 91, 92, 93, 94, 95, 96, 97, 98, 99, 100] (fun y => [(13, .int .i64 y.k), (10, .int .i64 (y.at_ : Int))]) (fun y => [QD gN [.int .i64 y.t.ph, .int .i64 y.t.n, .int .i64 (Q0 (QG a) (QH b) (QI d) i), .int .i64 y.t.e] 170, QD gH [.int .i64 K, .int .i64 W, .int .i64 H, .int .i64 M] 113, QD gl [.int .i64 (QG a), .int .i64 (QH b), .int .i64 (QI d)] 3, QD gO [.int .i64 0, .int .i64 0, .int .i64 0, .int .i64 0] 113]) (fun y => s.size - y.at_) ⟨0, at_, X8⟩ ?_ (by repeat (first | exact FrLe.nil | refine FrLe.cons rfl ?_)) ?_ ?_
     ·exact ⟨Nat.le_refl _, hat, fun _ => (show Yx _ X8 by unfold Yx X8; dsimp only; have := (YU a b d i).1; omega), (if_pos rfl).symm⟩
     ·exact Ent.refl _
     ·rintro ⟨k, at2, t⟩ ⟨ha2, hat2, htk, hnr⟩
      dsimp only at ha2 hat2 htk hnr ⊢
      refine Qb (Qb (Qa (Qc rfl rfl (QJ rfl rfl rfl (Qc rfl rfl (QP rfl rfl rfl (fun hg6 => ?_) (fun hg6 => ?_)))))))
      ·have hg6 := of_decide_eq_true hg6
       refine Qc rfl rfl (Qf rfl rfl (Qc rfl rfl (Qf rfl rfl (XE rfl Tryz.underlying9 rfl (Qf rfl rfl (Xc rfl rfl rfl (Qr rfl rfl rfl (WpL.nil (Qh rfl (fun h8 => ?_) (fun h8 => ?_))))))))))
       ·have hlt : at2 < s.size := by omega
        obtain ⟨cc, hcc⟩ : ∃ cc : Int, cc = ((s[at2]'hlt).toNat : Int) := ⟨_, rfl⟩
        obtain rfl : k = 0 := by assumption
        have htk2 := htk rfl
        rw [if_pos rfl] at hnr
        have hdr := XL hlt
        rw [← hcc] at hdr
        rw [hdr] at hnr
        have hst := ZN hnr
        refine Wp.skip (Wp.block ?_)
        refine Qb ?_
        apply YN (fB := []) mixed 8 [(8, true)] rfl rfl (by kernel_rfl)
        apply Y5 [⟨0, 90, _, [], false⟩, ⟨1, 91, _, [], false⟩, ⟨2, 92, _, [], false⟩, ⟨3, 93, _, [1, 2], false⟩, ⟨4, 94, _, [0, 3], false⟩, ⟨5, 89, _, [4], false⟩, ⟨6, 95, _, [5], false⟩, ⟨7, 96, _, [5], true⟩] [] [0, 1, 2, 3, 4, 5, 6] [15, 96] (.inl ⟨_, .nil⟩) rfl rfl rfl (by kernel_rfl) rfl rfl rfl rfl
        ·refine AllF.cons rfl rfl rfl rfl ?_ ?_
         ·refine Qz (vs := [_, _, _, _]) rfl rfl rfl (by rfl) ?_
          exact Qn rfl
         refine AllF.cons rfl rfl rfl rfl ?_ ?_
         ·exact Qc rfl rfl (Qn rfl)
         refine AllF.cons rfl rfl rfl rfl ?_ ?_
         ·exact Qc rfl rfl (Qn rfl)
         refine AllF.cons rfl rfl rfl rfl ?_ ?_
         ·refine Yr rfl Tryz.underlying9 rfl rfl (by omega) (by omega) ?_
          change WpL _ _ _ _ _ _ ((93, Value.int .u8 ((s[at2]'hlt).toNat : Int)) :: _) _
          rw [← hcc]
          exact Qn rfl
         refine AllF.cons rfl rfl rfl rfl ?_ ?_
         ·refine Qk rfl rfl (by repeat' constructor) (ZP t.ph t.n _ t.e cc (by rw [hcc]; omega) (by rw [hcc]; exact u8_lt _) htk2.2.2.1 (YU a b d i).1 (YU a b d i).2 ⟨htk2.1, by have := htk2.2.1; omega⟩) ?_
          rintro _ _ ⟨rfl, rfl⟩
          simp only [Qv]
          exact WpL.nil ⟨rfl, rfl, rfl, by exact Ent.refl _⟩
         refine AllF.cons rfl rfl rfl rfl ?_ ?_
         ·exact Qc rfl rfl (Qn rfl)
         refine AllF.cons rfl rfl rfl rfl ?_ ?_
         ·exact QL rfl rfl rfl (Qn rfl)
         refine QR rfl rfl rfl rfl ?_ ?_
         ·exact QL rfl rfl rfl (Qn rfl)
         exact AllF.nil
        ·intro gS
         refine QE rfl rfl rfl (by rfl) rfl ?_
         refine WpL.nil ⟨rfl, rfl, ?_⟩
         apply GoR.nil [⟨10, 15, _, [0, 1, 2, 3, 4, 5, 6, 7, 8, 9], false⟩] (.inl ⟨_, .nil⟩) rfl rfl
         ·refine AllF.cons rfl rfl rfl rfl ?_ ?_
          ·exact Qd rfl rfl (Qn rfl)
          exact AllF.nil
         ·refine Qb (Qa ?_)
          refine Qz (vs := [_, _, _, _]) rfl rfl rfl (by rfl) ?_
          refine QE rfl rfl rfl (by rfl) rfl ?_
          refine WpL.nil (Qb (Qa (Qc rfl rfl (Qd rfl rfl (WpL.nil (Qa (Qc rfl rfl (Qx rfl rfl rfl (Qp (by omega) (by omega)) ?_))))))))
          refine Qd rfl rfl (WpL.nil (Qq (Q := fun _ _ _ _ => False) (⟨(QC (Q0 (QG a) (QH b) (QI d) i) t cc).2, at2 + 1, (QC (Q0 (QG a) (QH b) (QI d) i) t cc).1⟩ : PbX) ?_ ?_ (by ((repeat (first | exact Top.refl | refine Top.push rfl ?_)); done)) (by repeat (first | exact FrLe.nil | refine FrLe.cons rfl ?_)) ?_))
          ·exact ⟨by simp only; omega, by simp only; omega, fun q => by rcases YM (c := cc) htk2 with z | z | z; exact z.2; exact absurd q (by simp only; omega); exact absurd q (by simp only; omega), hst⟩
          ·simp only; omega
          ·exact Take.ent' (by repeat' constructor)
       ·refine QV (Qb (Qb (Qa (Qc rfl rfl (QJ rfl rfl rfl (WpL.nil (Qh rfl (fun h9 => ?_) (fun h9 => ?_))))))))
        ·have hr : Xe (Q0 (QG a) (QH b) (QI d) i) X8 ((QZ s).drop at_) at_ = (t, k, (at2 : Int)) := by
          by_cases hk0 : k = 0
          ·rw [hnr, if_pos hk0, show (QZ s).drop at2 = [] from List.drop_of_length_le (by rw [Xa]; omega), hk0]; rfl
          ·rw [hnr, if_neg hk0]
         have hps := XM hpi hi (fun hb => ⟨by omega, (hbk hb).2⟩) hr
         refine Qb (Qa ?_)
         refine Xl rfl rfl ?_
         refine Qc rfl rfl ?_
         refine QE rfl rfl rfl (by rfl) rfl ?_
         refine Qd rfl rfl (Qd rfl rfl (WpL.nil (Qg ?_)))
         apply RetQ.mk
         ·exact (QY rfl rfl (by rfl) rfl rfl)
         ·exact ⟨0, 0, 0, 0, _, 6, by rw [hps.1 h9, Xa, show s.size = at2 by omega], rfl, rfl⟩
         ·exact Ent.nil _
        ·have hr : Xe (Q0 (QG a) (QH b) (QI d) i) X8 ((QZ s).drop at_) at_ = (t, k, (at2 : Int)) := by
          by_cases hk0 : k = 0
          ·rw [hnr, if_pos hk0, show (QZ s).drop at2 = [] from List.drop_of_length_le (by rw [Xa]; omega), hk0]; rfl
          ·rw [hnr, if_neg hk0]
         have hps := XM hpi hi (fun hb => ⟨by omega, (hbk hb).2⟩) hr
         refine Wp.skip (Qb (Qb (Qa (Qc rfl rfl (QJ rfl rfl rfl (WpL.nil (Qh rfl (fun h10 => ?_) (fun h10 => ?_))))))))
         ·refine Qb ?_
          apply Xk (fB := [QD gN [.int .i64 t.ph, .int .i64 t.n, .int .i64 (Q0 (QG a) (QH b) (QI d) i), .int .i64 t.e] 170]) mixed [(4, false)] (by kernel_rfl)
          apply Xd [⟨0, 107, _, [], false⟩, ⟨1, 108, _, [], true⟩, ⟨2, 109, _, [], true⟩, ⟨3, 110, _, [2], true⟩] [] [0] [5, 6, 108, 109, 110] (.inl ⟨_, by repeat' constructor⟩) rfl rfl rfl (by kernel_rfl) rfl rfl rfl
          ·refine AllF.cons rfl rfl rfl rfl ?_ ?_
           ·refine Xl rfl rfl ?_
            exact Qn rfl
           refine QR rfl rfl rfl rfl ?_ ?_
           ·exact Qc rfl rfl (Qn rfl)
           refine QR rfl rfl rfl rfl ?_ ?_
           ·exact Qj (o2 := 3) rfl rfl rfl (Qn rfl)
           refine QR rfl rfl rfl rfl ?_ ?_
           ·refine Qm rfl rfl (by rfl) ?_
            exact Qn rfl
           exact AllF.nil
          ·refine QE rfl rfl rfl (by rfl) rfl ?_
           refine WpL.nil ⟨rfl, rfl, ?_⟩
           apply GoR.nil [⟨5, 5, _, [0, 1, 4], false⟩, ⟨6, 6, _, [0, 1, 2, 3, 4, 5], false⟩] (.inl ⟨_, by repeat' constructor⟩) rfl rfl
           ·refine AllF.cons rfl rfl rfl rfl ?_ ?_
            ·exact Qd rfl rfl (Qn rfl)
            refine AllF.cons rfl rfl rfl rfl ?_ ?_
            ·exact Qd rfl rfl (Qn rfl)
            exact AllF.nil
           ·refine Qg ?_
            apply RetQ.mk
            ·exact (QY rfl rfl (by rfl) rfl rfl)
            ·exact ⟨0, 0, 0, 0, _, _, by rw [hps.2.1 h10], rfl, rfl⟩
            ·exact Ent.nil _
         ·refine Wp.skip (Qb (Qb (Qa (Qj (o2 := 1) rfl rfl rfl (Qm rfl rfl (by rfl) ?_)))))
          refine QJ rfl rfl rfl (WpL.nil (Qh rfl (fun h11 => ?_) (fun h11 => ?_)))
          ·refine Qb (Qa ?_)
           refine Xl rfl rfl ?_
           refine Qc rfl rfl ?_
           refine QE rfl rfl rfl (by rfl) rfl ?_
           refine Qd rfl rfl (Qd rfl rfl (WpL.nil (Qg ?_)))
           apply RetQ.mk
           ·exact (QY rfl rfl (by rfl) rfl rfl)
           ·exact ⟨0, 0, 0, 0, _, 4, by rw [hps.2.2.1 h9 h10 h11], rfl, rfl⟩
           ·exact Ent.nil _
          ·have hpn := hps.2.2.2 h9 h10 h11
           rw [Int.toNat_natCast] at hpn
           refine Wp.skip (Qb (Qa (Qc rfl rfl (WpL.nil (Wp.block ?_)))))
           refine Qb (Qa (QJ rfl rfl rfl (Qd rfl rfl (WpL.nil (Qh rfl (fun h12 => ?_) (fun h12 => ?_))))))
           ·refine Qa (Qj (o2 := 1) rfl rfl rfl (Qm rfl rfl (by rfl) ?_))
            refine Qj (o2 := 1) rfl rfl rfl (QN rfl rfl rfl (WpL.nil (Qa (Qc rfl rfl (Qx rfl rfl rfl (Qp (by omega) (by omega)) ?_)))))
            refine Qd rfl rfl (WpL.nil (Qq (⟨i + 1, at2, t.n, H, M⟩ : PaX) ?_ ?_ (by ((repeat (first | exact Top.refl | refine Top.push rfl ?_)); done)) (by repeat (first | exact FrLe.nil | refine FrLe.cons rfl ?_)) ?_))
            ·have e : i = 0 := by omega
             subst e
             exact ⟨hat2, by simp only; omega, fun hb => ⟨by simp only; omega, by exact (hbk hb).2⟩, hpn⟩
            ·simp only; omega
            ·exact Take.ent' (by repeat' constructor)
           ·refine Qb (Qa (QJ rfl rfl rfl (Qd rfl rfl (WpL.nil (Qh rfl (fun h13 => ?_) (fun h13 => ?_))))))
            ·refine Qa (Qj (o2 := 1) rfl rfl rfl (Qm rfl rfl (by rfl) ?_))
             refine Qj (o2 := 2) rfl rfl rfl (QN rfl rfl rfl (WpL.nil (Qa (Qc rfl rfl (Qx rfl rfl rfl (Qp (by omega) (by omega)) ?_)))))
             refine Qd rfl rfl (WpL.nil (Qq (⟨i + 1, at2, W, t.n, M⟩ : PaX) ?_ ?_ (by ((repeat (first | exact Top.refl | refine Top.push rfl ?_)); done)) (by repeat (first | exact FrLe.nil | refine FrLe.cons rfl ?_)) ?_))
             ·have e : i = 1 := by omega
              subst e
              exact ⟨hat2, by simp only; omega, fun hb => ⟨by simp only; omega, by exact (hbk hb).2⟩, hpn⟩
             ·simp only; omega
             ·exact Take.ent' (by repeat' constructor)
            ·refine Qa (Qj (o2 := 1) rfl rfl rfl (Qm rfl rfl (by rfl) ?_))
             refine Qj (o2 := 3) rfl rfl rfl (QN rfl rfl rfl (WpL.nil (Qa (Qc rfl rfl (Qx rfl rfl rfl (Qp (by omega) (by omega)) ?_)))))
             refine Qd rfl rfl (WpL.nil (Qq (⟨i + 1, at2, W, H, t.n⟩ : PaX) ?_ ?_ (by ((repeat (first | exact Top.refl | refine Top.push rfl ?_)); done)) (by repeat (first | exact FrLe.nil | refine FrLe.cons rfl ?_)) ?_))
             ·have e : i = 2 := by omega
              subst e
              exact ⟨hat2, by simp only; omega, fun hb => ⟨by simp only; omega, by (exfalso; have := (hbk hb).1; omega)⟩, hpn⟩
             ·simp only; omega
             ·exact Take.ent' (by repeat' constructor)
      ·have hg6 := of_decide_eq_false hg6
       refine Qe rfl rfl rfl (by decide) (Qe rfl rfl rfl (by decide) (Qe rfl rfl rfl (by decide) (Qu rfl rfl rfl (WpL.nil (QS rfl (QV (Qb (Qb (Qa (Qc rfl rfl (QJ rfl rfl rfl (WpL.nil ?_))))))))))))
       refine Qh rfl (fun h9 => ?_) (fun h9 => ?_)
       ·have hr : Xe (Q0 (QG a) (QH b) (QI d) i) X8 ((QZ s).drop at_) at_ = (t, k, (at2 : Int)) := by
         by_cases hk0 : k = 0
         ·rw [hnr, if_pos hk0, show (QZ s).drop at2 = [] from List.drop_of_length_le (by rw [Xa]; omega), hk0]; rfl
         ·rw [hnr, if_neg hk0]
        have hps := XM hpi hi (fun hb => ⟨by omega, (hbk hb).2⟩) hr
        refine Qb (Qa ?_)
        refine Xl rfl rfl ?_
        refine Qc rfl rfl ?_
        refine QE rfl rfl rfl (by rfl) rfl ?_
        refine Qd rfl rfl (Qd rfl rfl (WpL.nil (Qg ?_)))
        apply RetQ.mk
        ·exact (QY rfl rfl (by rfl) rfl rfl)
        ·exact ⟨0, 0, 0, 0, _, 6, by rw [hps.1 h9, Xa, show s.size = at2 by omega], rfl, rfl⟩
        ·exact Ent.nil _
       ·have hr : Xe (Q0 (QG a) (QH b) (QI d) i) X8 ((QZ s).drop at_) at_ = (t, k, (at2 : Int)) := by
         by_cases hk0 : k = 0
         ·rw [hnr, if_pos hk0, show (QZ s).drop at2 = [] from List.drop_of_length_le (by rw [Xa]; omega), hk0]; rfl
         ·rw [hnr, if_neg hk0]
        have hps := XM hpi hi (fun hb => ⟨by omega, (hbk hb).2⟩) hr
        refine Wp.skip (Qb (Qb (Qa (Qc rfl rfl (QJ rfl rfl rfl (WpL.nil (Qh rfl (fun h10 => ?_) (fun h10 => ?_))))))))
        ·refine Qb ?_
         apply Xk (fB := [QD gN [.int .i64 t.ph, .int .i64 t.n, .int .i64 (Q0 (QG a) (QH b) (QI d) i), .int .i64 t.e] 170]) mixed [(4, false)] (by kernel_rfl)
         apply Xd [⟨0, 107, _, [], false⟩, ⟨1, 108, _, [], true⟩, ⟨2, 109, _, [], true⟩, ⟨3, 110, _, [2], true⟩] [] [0] [5, 6, 108, 109, 110] (.inl ⟨_, by repeat' constructor⟩) rfl rfl rfl (by kernel_rfl) rfl rfl rfl
         ·refine AllF.cons rfl rfl rfl rfl ?_ ?_
          ·refine Xl rfl rfl ?_
           exact Qn rfl
          refine QR rfl rfl rfl rfl ?_ ?_
          ·exact Qc rfl rfl (Qn rfl)
          refine QR rfl rfl rfl rfl ?_ ?_
          ·exact Qj (o2 := 3) rfl rfl rfl (Qn rfl)
          refine QR rfl rfl rfl rfl ?_ ?_
          ·refine Qm rfl rfl (by rfl) ?_
           exact Qn rfl
          exact AllF.nil
         ·refine QE rfl rfl rfl (by rfl) rfl ?_
          refine WpL.nil ⟨rfl, rfl, ?_⟩
          apply GoR.nil [⟨5, 5, _, [0, 1, 4], false⟩, ⟨6, 6, _, [0, 1, 2, 3, 4, 5], false⟩] (.inl ⟨_, by repeat' constructor⟩) rfl rfl
          ·refine AllF.cons rfl rfl rfl rfl ?_ ?_
           ·exact Qd rfl rfl (Qn rfl)
           refine AllF.cons rfl rfl rfl rfl ?_ ?_
           ·exact Qd rfl rfl (Qn rfl)
           exact AllF.nil
          ·refine Qg ?_
           apply RetQ.mk
           ·exact (QY rfl rfl (by rfl) rfl rfl)
           ·exact ⟨0, 0, 0, 0, _, _, by rw [hps.2.1 h10], rfl, rfl⟩
           ·exact Ent.nil _
        ·refine Wp.skip (Qb (Qb (Qa (Qj (o2 := 1) rfl rfl rfl (Qm rfl rfl (by rfl) ?_)))))
         refine QJ rfl rfl rfl (WpL.nil (Qh rfl (fun h11 => ?_) (fun h11 => ?_)))
         ·refine Qb (Qa ?_)
          refine Xl rfl rfl ?_
          refine Qc rfl rfl ?_
          refine QE rfl rfl rfl (by rfl) rfl ?_
          refine Qd rfl rfl (Qd rfl rfl (WpL.nil (Qg ?_)))
          apply RetQ.mk
          ·exact (QY rfl rfl (by rfl) rfl rfl)
          ·exact ⟨0, 0, 0, 0, _, 4, by rw [hps.2.2.1 h9 h10 h11], rfl, rfl⟩
          ·exact Ent.nil _
         ·have hpn := hps.2.2.2 h9 h10 h11
          rw [Int.toNat_natCast] at hpn
          refine Wp.skip (Qb (Qa (Qc rfl rfl (WpL.nil (Wp.block ?_)))))
          refine Qb (Qa (QJ rfl rfl rfl (Qd rfl rfl (WpL.nil (Qh rfl (fun h12 => ?_) (fun h12 => ?_))))))
          ·refine Qa (Qj (o2 := 1) rfl rfl rfl (Qm rfl rfl (by rfl) ?_))
           refine Qj (o2 := 1) rfl rfl rfl (QN rfl rfl rfl (WpL.nil (Qa (Qc rfl rfl (Qx rfl rfl rfl (Qp (by omega) (by omega)) ?_)))))
           refine Qd rfl rfl (WpL.nil (Qq (⟨i + 1, at2, t.n, H, M⟩ : PaX) ?_ ?_ (by ((repeat (first | exact Top.refl | refine Top.push rfl ?_)); done)) (by repeat (first | exact FrLe.nil | refine FrLe.cons rfl ?_)) ?_))
           ·have e : i = 0 := by omega
            subst e
            exact ⟨hat2, by simp only; omega, fun hb => ⟨by simp only; omega, by exact (hbk hb).2⟩, hpn⟩
           ·simp only; omega
           ·exact Take.ent' (by repeat' constructor)
          ·refine Qb (Qa (QJ rfl rfl rfl (Qd rfl rfl (WpL.nil (Qh rfl (fun h13 => ?_) (fun h13 => ?_))))))
           ·refine Qa (Qj (o2 := 1) rfl rfl rfl (Qm rfl rfl (by rfl) ?_))
            refine Qj (o2 := 2) rfl rfl rfl (QN rfl rfl rfl (WpL.nil (Qa (Qc rfl rfl (Qx rfl rfl rfl (Qp (by omega) (by omega)) ?_)))))
            refine Qd rfl rfl (WpL.nil (Qq (⟨i + 1, at2, W, t.n, M⟩ : PaX) ?_ ?_ (by ((repeat (first | exact Top.refl | refine Top.push rfl ?_)); done)) (by repeat (first | exact FrLe.nil | refine FrLe.cons rfl ?_)) ?_))
            ·have e : i = 1 := by omega
             subst e
             exact ⟨hat2, by simp only; omega, fun hb => ⟨by simp only; omega, by exact (hbk hb).2⟩, hpn⟩
            ·simp only; omega
            ·exact Take.ent' (by repeat' constructor)
           ·refine Qa (Qj (o2 := 1) rfl rfl rfl (Qm rfl rfl (by rfl) ?_))
            refine Qj (o2 := 3) rfl rfl rfl (QN rfl rfl rfl (WpL.nil (Qa (Qc rfl rfl (Qx rfl rfl rfl (Qp (by omega) (by omega)) ?_)))))
            refine Qd rfl rfl (WpL.nil (Qq (⟨i + 1, at2, W, H, t.n⟩ : PaX) ?_ ?_ (by ((repeat (first | exact Top.refl | refine Top.push rfl ?_)); done)) (by repeat (first | exact FrLe.nil | refine FrLe.cons rfl ?_)) ?_))
            ·have e : i = 2 := by omega
             subst e
             exact ⟨hat2, by simp only; omega, fun hb => ⟨by simp only; omega, by (exfalso; have := (hbk hb).1; omega)⟩, hpn⟩
            ·simp only; omega
            ·exact Take.ent' (by repeat' constructor)
    ·refine QV (Qb (Qa ?_))
     refine Qz (vs := [_, _, _, _]) rfl rfl rfl (by rfl) ?_
     refine Qc rfl rfl ?_
     refine QE rfl rfl rfl (by rfl) rfl ?_
     refine Qd rfl rfl (Qd rfl rfl (WpL.nil (Qg ?_)))
     apply RetQ.mk
     ·exact (QY rfl rfl (by rfl) rfl rfl)
     ·exact ⟨K, W, H, M, _, 0, by unfold parI at hpi; rw [hpi, if_pos (by exact .inr ⟨by have := (hbk h4).1; omega, h4⟩)], rfl, rfl⟩
     ·exact Ent.nil _
  ·refine Wp.skip (Qb (Qa ?_))
   refine Qz (vs := [_, _, _]) rfl rfl rfl (by rfl) ?_
   refine Qk rfl rfl (by repeat' constructor) (Zu _ _ _) ?_
   rintro _ _ ⟨gl, rfl, rfl⟩
   simp only [Qv]
   refine Qd rfl rfl (WpL.nil (Qb (Qa (Qd rfl rfl (WpL.nil (Qb (Qb (Qa (Qd rfl rfl (WpL.nil (Wp.block ?_)))))))))))
   refine Wp.loopD (σ := PaX) (fun x => x.at_ ≤ s.size ∧ x.i ≤ 3 ∧ (XZ K → x.i ≤ 2 ∧ x.M = 1) ∧ parI (QG a) (QH b) (QI d) K (QZ s) x.i x.at_ x.W x.H x.M) [5, 6, 10, 11, 12, 13, 14, 15, 71, 72, 73, 74, 75, 76, 77, 78, 79, 80, 81, 82, 83, 84, 85, 86, 87, 88, 89, 90, 91, 92, 93, 94, 95, 96, 97, 98, 99, 100, 101, 102, 103, 104, 105, 106, 107, 108, 109, 110, 111, 112, 113, 114, 115, 116, 117, 118, 119, 120, 121, 122, 123, 124, 125, 126, 127, 128, 129] (fun x => [(11, .int .i64 (x.i : Int)), (10, .int .i64 (x.at_ : Int))]) (fun x => [QD gH [.int .i64 K, .int .i64 x.W, .int .i64 x.H, .int .i64 x.M] 113, QD gl [.int .i64 (QG a), .int .i64 (QH b), .int .i64 (QI d)] 3, QD gO [.int .i64 0, .int .i64 0, .int .i64 0, .int .i64 0] 113]) (fun x => 3 - x.i) ⟨0, 2, 0, 0, (if XZ K then 1 else 0)⟩ ?_ (by repeat (first | exact FrLe.nil | refine FrLe.cons rfl ?_)) ?_ ?_
   ·exact ⟨by simp only; omega, by simp, fun hb => ⟨by simp, by simp only; rw [if_pos hb]⟩, hpar _⟩
   ·(rw [show (if XZ K then (1 : Int) else 0) = 0 from if_neg h4]; exact Take.ent' (by repeat' constructor))
   ·rintro ⟨i, at_, W, H, M⟩ ⟨hat, hi3, hbk, hpi⟩
    dsimp only at hat hi3 hbk hpi ⊢
    refine Qb (Qb (Qa (Qc rfl rfl (Qc rfl rfl (Xc rfl rfl rfl (WpL.nil (Qh rfl (fun h6 => ?_) (fun h6 => ?_))))))))
    ·have hi : i < 3 := by omega
     refine Wp.skip (Qb (Wp.block ?_))
     refine Qb (Qa (Qc rfl rfl (Qc rfl rfl (Xs i rfl rfl rfl (RdsL.blk (o := 0) (xs := [.int .i64 (QG a), .int .i64 (QH b), .int .i64 (QI d)]) rfl) (by exact Take.ent' (by repeat' constructor)) rfl (by omega) (by simp only [List.length_cons, List.length_nil]; omega) ?_))))
     refine Xv rfl rfl (RdsL.blk (o := 0) (xs := [.int .i64 (QG a), .int .i64 (QH b), .int .i64 (QI d)]) rfl) (by exact Take.ent' (by repeat' constructor)) (lsel_lim a b d i hi) ?_
     refine Qk rfl rfl (by repeat' constructor) (ZO _) ?_
     rintro _ _ ⟨rfl, rfl⟩
     simp only [Qv]
     refine X6 rfl ?_
     intro gN
     refine QE rfl rfl rfl (by rfl) rfl ?_
     refine WpL.nil (Qb (Qa (Qd rfl rfl (WpL.nil (Qb (Wp.block ?_))))))
     refine Wp.loopD (σ := PbX) (fun y => at_ ≤ y.at_ ∧ y.at_ ≤ s.size ∧ (y.k = 0 → Yx (Q0 (QG a) (QH b) (QI d) i) y.t) ∧ Xe (Q0 (QG a) (QH b) (QI d) i) X8 ((QZ s).drop at_) at_ = (if y.k = 0 then Xe (Q0 (QG a) (QH b) (QI d) i) y.t ((QZ s).drop y.at_) y.at_ else (y.t, y.k, (y.at_ : Int)))) [10, 13, 14, 15, 81, 82, 83, 84, 85, 86, 87, 88, 89, 90, 91, 92, 93, 94, 95, 96, 97, 98, 99, 100] (fun y => [(13, .int .i64 y.k), (10, .int .i64 (y.at_ : Int))]) (fun y => [QD gN [.int .i64 y.t.ph, .int .i64 y.t.n, .int .i64 (Q0 (QG a) (QH b) (QI d) i), .int .i64 y.t.e] 170, QD gH [.int .i64 K, .int .i64 W, .int .i64 H, .int .i64 M] 113, QD gl [.int .i64 (QG a), .int .i64 (QH b), .int .i64 (QI d)] 3, QD gO [.int .i64 0, .int .i64 0, .int .i64 0, .int .i64 0] 113]) (fun y => s.size - y.at_) ⟨0, at_, X8⟩ ?_ (by repeat (first | exact FrLe.nil | refine FrLe.cons rfl ?_)) ?_ ?_
     ·exact ⟨Nat.le_refl _, hat, fun _ => (show Yx _ X8 by unfold Yx X8; dsimp only; have := (YU a b d i).1; omega), (if_pos rfl).symm⟩
     ·exact Ent.refl _
     ·rintro ⟨k, at2, t⟩ ⟨ha2, hat2, htk, hnr⟩
      dsimp only at ha2 hat2 htk hnr ⊢
      refine Qb (Qb (Qa (Qc rfl rfl (QJ rfl rfl rfl (Qc rfl rfl (QP rfl rfl rfl (fun hg7 => ?_) (fun hg7 => ?_)))))))
      ·have hg7 := of_decide_eq_true hg7
       refine Qc rfl rfl (Qf rfl rfl (Qc rfl rfl (Qf rfl rfl (XE rfl Tryz.underlying9 rfl (Qf rfl rfl (Xc rfl rfl rfl (Qr rfl rfl rfl (WpL.nil (Qh rfl (fun h8 => ?_) (fun h8 => ?_))))))))))
       ·have hlt : at2 < s.size := by omega
        obtain ⟨cc, hcc⟩ : ∃ cc : Int, cc = ((s[at2]'hlt).toNat : Int) := ⟨_, rfl⟩
        obtain rfl : k = 0 := by assumption
        have htk2 := htk rfl
        rw [if_pos rfl] at hnr
        have hdr := XL hlt
        rw [← hcc] at hdr
        rw [hdr] at hnr
        have hst := ZN hnr
        refine Wp.skip (Wp.block ?_)
        refine Qb ?_
        apply YN (fB := []) mixed 8 [(8, true)] rfl rfl (by kernel_rfl)
        apply Y5 [⟨0, 90, _, [], false⟩, ⟨1, 91, _, [], false⟩, ⟨2, 92, _, [], false⟩, ⟨3, 93, _, [1, 2], false⟩, ⟨4, 94, _, [0, 3], false⟩, ⟨5, 89, _, [4], false⟩, ⟨6, 95, _, [5], false⟩, ⟨7, 96, _, [5], true⟩] [] [0, 1, 2, 3, 4, 5, 6] [15, 96] (.inl ⟨_, .nil⟩) rfl rfl rfl (by kernel_rfl) rfl rfl rfl rfl
        ·refine AllF.cons rfl rfl rfl rfl ?_ ?_
         ·refine Qz (vs := [_, _, _, _]) rfl rfl rfl (by rfl) ?_
          exact Qn rfl
         refine AllF.cons rfl rfl rfl rfl ?_ ?_
         ·exact Qc rfl rfl (Qn rfl)
         refine AllF.cons rfl rfl rfl rfl ?_ ?_
         ·exact Qc rfl rfl (Qn rfl)
         refine AllF.cons rfl rfl rfl rfl ?_ ?_
         ·refine Yr rfl Tryz.underlying9 rfl rfl (by omega) (by omega) ?_
          change WpL _ _ _ _ _ _ ((93, Value.int .u8 ((s[at2]'hlt).toNat : Int)) :: _) _
          rw [← hcc]
          exact Qn rfl
         refine AllF.cons rfl rfl rfl rfl ?_ ?_
         ·refine Qk rfl rfl (by repeat' constructor) (ZP t.ph t.n _ t.e cc (by rw [hcc]; omega) (by rw [hcc]; exact u8_lt _) htk2.2.2.1 (YU a b d i).1 (YU a b d i).2 ⟨htk2.1, by have := htk2.2.1; omega⟩) ?_
          rintro _ _ ⟨rfl, rfl⟩
          simp only [Qv]
          exact WpL.nil ⟨rfl, rfl, rfl, by exact Ent.refl _⟩
         refine AllF.cons rfl rfl rfl rfl ?_ ?_
         ·exact Qc rfl rfl (Qn rfl)
         refine AllF.cons rfl rfl rfl rfl ?_ ?_
         ·exact QL rfl rfl rfl (Qn rfl)
         refine QR rfl rfl rfl rfl ?_ ?_
         ·exact QL rfl rfl rfl (Qn rfl)
         exact AllF.nil
        ·intro gS
         refine QE rfl rfl rfl (by rfl) rfl ?_
         refine WpL.nil ⟨rfl, rfl, ?_⟩
         apply GoR.nil [⟨10, 15, _, [0, 1, 2, 3, 4, 5, 6, 7, 8, 9], false⟩] (.inl ⟨_, .nil⟩) rfl rfl
         ·refine AllF.cons rfl rfl rfl rfl ?_ ?_
          ·exact Qd rfl rfl (Qn rfl)
          exact AllF.nil
         ·refine Qb (Qa ?_)
          refine Qz (vs := [_, _, _, _]) rfl rfl rfl (by rfl) ?_
          refine QE rfl rfl rfl (by rfl) rfl ?_
          refine WpL.nil (Qb (Qa (Qc rfl rfl (Qd rfl rfl (WpL.nil (Qa (Qc rfl rfl (Qx rfl rfl rfl (Qp (by omega) (by omega)) ?_))))))))
          refine Qd rfl rfl (WpL.nil (Qq (Q := fun _ _ _ _ => False) (⟨(QC (Q0 (QG a) (QH b) (QI d) i) t cc).2, at2 + 1, (QC (Q0 (QG a) (QH b) (QI d) i) t cc).1⟩ : PbX) ?_ ?_ (by ((repeat (first | exact Top.refl | refine Top.push rfl ?_)); done)) (by repeat (first | exact FrLe.nil | refine FrLe.cons rfl ?_)) ?_))
          ·exact ⟨by simp only; omega, by simp only; omega, fun q => by rcases YM (c := cc) htk2 with z | z | z; exact z.2; exact absurd q (by simp only; omega); exact absurd q (by simp only; omega), hst⟩
          ·simp only; omega
          ·exact Take.ent' (by repeat' constructor)
       ·refine QV (Qb (Qb (Qa (Qc rfl rfl (QJ rfl rfl rfl (WpL.nil (Qh rfl (fun h9 => ?_) (fun h9 => ?_))))))))
        ·have hr : Xe (Q0 (QG a) (QH b) (QI d) i) X8 ((QZ s).drop at_) at_ = (t, k, (at2 : Int)) := by
          by_cases hk0 : k = 0
          ·rw [hnr, if_pos hk0, show (QZ s).drop at2 = [] from List.drop_of_length_le (by rw [Xa]; omega), hk0]; rfl
          ·rw [hnr, if_neg hk0]
         have hps := XM hpi hi (fun hb => ⟨by exact absurd hb h4, (hbk hb).2⟩) hr
         refine Qb (Qa ?_)
         refine Xl rfl rfl ?_
         refine Qc rfl rfl ?_
         refine QE rfl rfl rfl (by rfl) rfl ?_
         refine Qd rfl rfl (Qd rfl rfl (WpL.nil (Qg ?_)))
         apply RetQ.mk
         ·exact (QY rfl rfl (by rfl) rfl rfl)
         ·exact ⟨0, 0, 0, 0, _, 6, by rw [hps.1 h9, Xa, show s.size = at2 by omega], rfl, rfl⟩
         ·exact Ent.nil _
        ·have hr : Xe (Q0 (QG a) (QH b) (QI d) i) X8 ((QZ s).drop at_) at_ = (t, k, (at2 : Int)) := by
          by_cases hk0 : k = 0
          ·rw [hnr, if_pos hk0, show (QZ s).drop at2 = [] from List.drop_of_length_le (by rw [Xa]; omega), hk0]; rfl
          ·rw [hnr, if_neg hk0]
         have hps := XM hpi hi (fun hb => ⟨by omega, (hbk hb).2⟩) hr
         refine Wp.skip (Qb (Qb (Qa (Qc rfl rfl (QJ rfl rfl rfl (WpL.nil (Qh rfl (fun h10 => ?_) (fun h10 => ?_))))))))
         ·refine Qb ?_
          apply Xk (fB := [QD gN [.int .i64 t.ph, .int .i64 t.n, .int .i64 (Q0 (QG a) (QH b) (QI d) i), .int .i64 t.e] 170]) mixed [(4, false)] (by kernel_rfl)
          apply Xd [⟨0, 107, _, [], false⟩, ⟨1, 108, _, [], true⟩, ⟨2, 109, _, [], true⟩, ⟨3, 110, _, [2], true⟩] [] [0] [5, 6, 108, 109, 110] (.inl ⟨_, by repeat' constructor⟩) rfl rfl rfl (by kernel_rfl) rfl rfl rfl
          ·refine AllF.cons rfl rfl rfl rfl ?_ ?_
           ·refine Xl rfl rfl ?_
            exact Qn rfl
           refine QR rfl rfl rfl rfl ?_ ?_
           ·exact Qc rfl rfl (Qn rfl)
           refine QR rfl rfl rfl rfl ?_ ?_
           ·exact Qj (o2 := 3) rfl rfl rfl (Qn rfl)
           refine QR rfl rfl rfl rfl ?_ ?_
           ·refine Qm rfl rfl (by rfl) ?_
            exact Qn rfl
           exact AllF.nil
          ·refine QE rfl rfl rfl (by rfl) rfl ?_
           refine WpL.nil ⟨rfl, rfl, ?_⟩
           apply GoR.nil [⟨5, 5, _, [0, 1, 4], false⟩, ⟨6, 6, _, [0, 1, 2, 3, 4, 5], false⟩] (.inl ⟨_, by repeat' constructor⟩) rfl rfl
           ·refine AllF.cons rfl rfl rfl rfl ?_ ?_
            ·exact Qd rfl rfl (Qn rfl)
            refine AllF.cons rfl rfl rfl rfl ?_ ?_
            ·exact Qd rfl rfl (Qn rfl)
            exact AllF.nil
           ·refine Qg ?_
            apply RetQ.mk
            ·exact (QY rfl rfl (by rfl) rfl rfl)
            ·exact ⟨0, 0, 0, 0, _, _, by rw [hps.2.1 h10], rfl, rfl⟩
            ·exact Ent.nil _
         ·refine Wp.skip (Qb (Qb (Qa (Qj (o2 := 1) rfl rfl rfl (Qm rfl rfl (by rfl) ?_)))))
          refine QJ rfl rfl rfl (WpL.nil (Qh rfl (fun h11 => ?_) (fun h11 => ?_)))
          ·refine Qb (Qa ?_)
           refine Xl rfl rfl ?_
           refine Qc rfl rfl ?_
           refine QE rfl rfl rfl (by rfl) rfl ?_
           refine Qd rfl rfl (Qd rfl rfl (WpL.nil (Qg ?_)))
           apply RetQ.mk
           ·exact (QY rfl rfl (by rfl) rfl rfl)
           ·exact ⟨0, 0, 0, 0, _, 4, by rw [hps.2.2.1 h9 h10 h11], rfl, rfl⟩
           ·exact Ent.nil _
          ·have hpn := hps.2.2.2 h9 h10 h11
           rw [Int.toNat_natCast] at hpn
           refine Wp.skip (Qb (Qa (Qc rfl rfl (WpL.nil (Wp.block ?_)))))
           refine Qb (Qa (QJ rfl rfl rfl (Qd rfl rfl (WpL.nil (Qh rfl (fun h12 => ?_) (fun h12 => ?_))))))
           ·refine Qa (Qj (o2 := 1) rfl rfl rfl (Qm rfl rfl (by rfl) ?_))
            refine Qj (o2 := 1) rfl rfl rfl (QN rfl rfl rfl (WpL.nil (Qa (Qc rfl rfl (Qx rfl rfl rfl (Qp (by omega) (by omega)) ?_)))))
            refine Qd rfl rfl (WpL.nil (Qq (⟨i + 1, at2, t.n, H, M⟩ : PaX) ?_ ?_ (by ((repeat (first | exact Top.refl | refine Top.push rfl ?_)); done)) (by repeat (first | exact FrLe.nil | refine FrLe.cons rfl ?_)) ?_))
            ·have e : i = 0 := by omega
             subst e
             exact ⟨hat2, by simp only; omega, fun hb => ⟨by simp only; omega, by exact (hbk hb).2⟩, hpn⟩
            ·simp only; omega
            ·exact Take.ent' (by repeat' constructor)
           ·refine Qb (Qa (QJ rfl rfl rfl (Qd rfl rfl (WpL.nil (Qh rfl (fun h13 => ?_) (fun h13 => ?_))))))
            ·refine Qa (Qj (o2 := 1) rfl rfl rfl (Qm rfl rfl (by rfl) ?_))
             refine Qj (o2 := 2) rfl rfl rfl (QN rfl rfl rfl (WpL.nil (Qa (Qc rfl rfl (Qx rfl rfl rfl (Qp (by omega) (by omega)) ?_)))))
             refine Qd rfl rfl (WpL.nil (Qq (⟨i + 1, at2, W, t.n, M⟩ : PaX) ?_ ?_ (by ((repeat (first | exact Top.refl | refine Top.push rfl ?_)); done)) (by repeat (first | exact FrLe.nil | refine FrLe.cons rfl ?_)) ?_))
             ·have e : i = 1 := by omega
              subst e
              exact ⟨hat2, by simp only; omega, fun hb => ⟨by simp only; omega, by exact (hbk hb).2⟩, hpn⟩
             ·simp only; omega
             ·exact Take.ent' (by repeat' constructor)
            ·refine Qa (Qj (o2 := 1) rfl rfl rfl (Qm rfl rfl (by rfl) ?_))
             refine Qj (o2 := 3) rfl rfl rfl (QN rfl rfl rfl (WpL.nil (Qa (Qc rfl rfl (Qx rfl rfl rfl (Qp (by omega) (by omega)) ?_)))))
             refine Qd rfl rfl (WpL.nil (Qq (⟨i + 1, at2, W, H, t.n⟩ : PaX) ?_ ?_ (by ((repeat (first | exact Top.refl | refine Top.push rfl ?_)); done)) (by repeat (first | exact FrLe.nil | refine FrLe.cons rfl ?_)) ?_))
             ·have e : i = 2 := by omega
              subst e
              exact ⟨hat2, by simp only; omega, fun hb => ⟨by simp only; omega, by exact absurd hb h4⟩, hpn⟩
             ·simp only; omega
             ·exact Take.ent' (by repeat' constructor)
      ·have hg7 := of_decide_eq_false hg7
       refine Qe rfl rfl rfl (by decide) (Qe rfl rfl rfl (by decide) (Qe rfl rfl rfl (by decide) (Qu rfl rfl rfl (WpL.nil (QS rfl (QV (Qb (Qb (Qa (Qc rfl rfl (QJ rfl rfl rfl (WpL.nil ?_))))))))))))
       refine Qh rfl (fun h9 => ?_) (fun h9 => ?_)
       ·have hr : Xe (Q0 (QG a) (QH b) (QI d) i) X8 ((QZ s).drop at_) at_ = (t, k, (at2 : Int)) := by
         by_cases hk0 : k = 0
         ·rw [hnr, if_pos hk0, show (QZ s).drop at2 = [] from List.drop_of_length_le (by rw [Xa]; omega), hk0]; rfl
         ·rw [hnr, if_neg hk0]
        have hps := XM hpi hi (fun hb => ⟨by omega, (hbk hb).2⟩) hr
        refine Qb (Qa ?_)
        refine Xl rfl rfl ?_
        refine Qc rfl rfl ?_
        refine QE rfl rfl rfl (by rfl) rfl ?_
        refine Qd rfl rfl (Qd rfl rfl (WpL.nil (Qg ?_)))
        apply RetQ.mk
        ·exact (QY rfl rfl (by rfl) rfl rfl)
        ·exact ⟨0, 0, 0, 0, _, 6, by rw [hps.1 h9, Xa, show s.size = at2 by omega], rfl, rfl⟩
        ·exact Ent.nil _
       ·have hr : Xe (Q0 (QG a) (QH b) (QI d) i) X8 ((QZ s).drop at_) at_ = (t, k, (at2 : Int)) := by
         by_cases hk0 : k = 0
         ·rw [hnr, if_pos hk0, show (QZ s).drop at2 = [] from List.drop_of_length_le (by rw [Xa]; omega), hk0]; rfl
         ·rw [hnr, if_neg hk0]
        have hps := XM hpi hi (fun hb => ⟨by exact absurd hb h4, (hbk hb).2⟩) hr
        refine Wp.skip (Qb (Qb (Qa (Qc rfl rfl (QJ rfl rfl rfl (WpL.nil (Qh rfl (fun h10 => ?_) (fun h10 => ?_))))))))
        ·refine Qb ?_
         apply Xk (fB := [QD gN [.int .i64 t.ph, .int .i64 t.n, .int .i64 (Q0 (QG a) (QH b) (QI d) i), .int .i64 t.e] 170]) mixed [(4, false)] (by kernel_rfl)
         apply Xd [⟨0, 107, _, [], false⟩, ⟨1, 108, _, [], true⟩, ⟨2, 109, _, [], true⟩, ⟨3, 110, _, [2], true⟩] [] [0] [5, 6, 108, 109, 110] (.inl ⟨_, by repeat' constructor⟩) rfl rfl rfl (by kernel_rfl) rfl rfl rfl
         ·refine AllF.cons rfl rfl rfl rfl ?_ ?_
          ·refine Xl rfl rfl ?_
           exact Qn rfl
          refine QR rfl rfl rfl rfl ?_ ?_
          ·exact Qc rfl rfl (Qn rfl)
          refine QR rfl rfl rfl rfl ?_ ?_
          ·exact Qj (o2 := 3) rfl rfl rfl (Qn rfl)
          refine QR rfl rfl rfl rfl ?_ ?_
          ·refine Qm rfl rfl (by rfl) ?_
           exact Qn rfl
          exact AllF.nil
         ·refine QE rfl rfl rfl (by rfl) rfl ?_
          refine WpL.nil ⟨rfl, rfl, ?_⟩
          apply GoR.nil [⟨5, 5, _, [0, 1, 4], false⟩, ⟨6, 6, _, [0, 1, 2, 3, 4, 5], false⟩] (.inl ⟨_, by repeat' constructor⟩) rfl rfl
          ·refine AllF.cons rfl rfl rfl rfl ?_ ?_
           ·exact Qd rfl rfl (Qn rfl)
           refine AllF.cons rfl rfl rfl rfl ?_ ?_
           ·exact Qd rfl rfl (Qn rfl)
           exact AllF.nil
          ·refine Qg ?_
           apply RetQ.mk
           ·exact (QY rfl rfl (by rfl) rfl rfl)
           ·exact ⟨0, 0, 0, 0, _, _, by rw [hps.2.1 h10], rfl, rfl⟩
           ·exact Ent.nil _
        ·refine Wp.skip (Qb (Qb (Qa (Qj (o2 := 1) rfl rfl rfl (Qm rfl rfl (by rfl) ?_)))))
         refine QJ rfl rfl rfl (WpL.nil (Qh rfl (fun h11 => ?_) (fun h11 => ?_)))
         ·refine Qb (Qa ?_)
          refine Xl rfl rfl ?_
          refine Qc rfl rfl ?_
          refine QE rfl rfl rfl (by rfl) rfl ?_
          refine Qd rfl rfl (Qd rfl rfl (WpL.nil (Qg ?_)))
          apply RetQ.mk
          ·exact (QY rfl rfl (by rfl) rfl rfl)
          ·exact ⟨0, 0, 0, 0, _, 4, by rw [hps.2.2.1 h9 h10 h11], rfl, rfl⟩
          ·exact Ent.nil _
         ·have hpn := hps.2.2.2 h9 h10 h11
          rw [Int.toNat_natCast] at hpn
          refine Wp.skip (Qb (Qa (Qc rfl rfl (WpL.nil (Wp.block ?_)))))
          refine Qb (Qa (QJ rfl rfl rfl (Qd rfl rfl (WpL.nil (Qh rfl (fun h12 => ?_) (fun h12 => ?_))))))
          ·refine Qa (Qj (o2 := 1) rfl rfl rfl (Qm rfl rfl (by rfl) ?_))
           refine Qj (o2 := 1) rfl rfl rfl (QN rfl rfl rfl (WpL.nil (Qa (Qc rfl rfl (Qx rfl rfl rfl (Qp (by omega) (by omega)) ?_)))))
           refine Qd rfl rfl (WpL.nil (Qq (⟨i + 1, at2, t.n, H, M⟩ : PaX) ?_ ?_ (by ((repeat (first | exact Top.refl | refine Top.push rfl ?_)); done)) (by repeat (first | exact FrLe.nil | refine FrLe.cons rfl ?_)) ?_))
           ·have e : i = 0 := by omega
            subst e
            exact ⟨hat2, by simp only; omega, fun hb => ⟨by simp only; omega, by exact (hbk hb).2⟩, hpn⟩
           ·simp only; omega
           ·exact Take.ent' (by repeat' constructor)
          ·refine Qb (Qa (QJ rfl rfl rfl (Qd rfl rfl (WpL.nil (Qh rfl (fun h13 => ?_) (fun h13 => ?_))))))
           ·refine Qa (Qj (o2 := 1) rfl rfl rfl (Qm rfl rfl (by rfl) ?_))
            refine Qj (o2 := 2) rfl rfl rfl (QN rfl rfl rfl (WpL.nil (Qa (Qc rfl rfl (Qx rfl rfl rfl (Qp (by omega) (by omega)) ?_)))))
            refine Qd rfl rfl (WpL.nil (Qq (⟨i + 1, at2, W, t.n, M⟩ : PaX) ?_ ?_ (by ((repeat (first | exact Top.refl | refine Top.push rfl ?_)); done)) (by repeat (first | exact FrLe.nil | refine FrLe.cons rfl ?_)) ?_))
            ·have e : i = 1 := by omega
             subst e
             exact ⟨hat2, by simp only; omega, fun hb => ⟨by simp only; omega, by exact (hbk hb).2⟩, hpn⟩
            ·simp only; omega
            ·exact Take.ent' (by repeat' constructor)
           ·refine Qa (Qj (o2 := 1) rfl rfl rfl (Qm rfl rfl (by rfl) ?_))
            refine Qj (o2 := 3) rfl rfl rfl (QN rfl rfl rfl (WpL.nil (Qa (Qc rfl rfl (Qx rfl rfl rfl (Qp (by omega) (by omega)) ?_)))))
            refine Qd rfl rfl (WpL.nil (Qq (⟨i + 1, at2, W, H, t.n⟩ : PaX) ?_ ?_ (by ((repeat (first | exact Top.refl | refine Top.push rfl ?_)); done)) (by repeat (first | exact FrLe.nil | refine FrLe.cons rfl ?_)) ?_))
            ·have e : i = 2 := by omega
             subst e
             exact ⟨hat2, by simp only; omega, fun hb => ⟨by simp only; exact absurd hb h4, by exact absurd hb h4⟩, hpn⟩
            ·simp only; omega
            ·exact Take.ent' (by repeat' constructor)
    ·refine QV (Qb (Qa ?_))
     refine Qz (vs := [_, _, _, _]) rfl rfl rfl (by rfl) ?_
     refine Qc rfl rfl ?_
     refine QE rfl rfl rfl (by rfl) rfl ?_
     refine Qd rfl rfl (Qd rfl rfl (WpL.nil (Qg ?_)))
     apply RetQ.mk
     ·exact (QY rfl rfl (by rfl) rfl rfl)
     ·exact ⟨K, W, H, M, _, 0, by unfold parI at hpi; rw [hpi, if_pos (by exact .inl (by omega))], rfl, rfl⟩
     ·exact Ent.nil _
 ·have hg5 := of_decide_eq_false hg5
  refine Qe rfl rfl rfl (by decide) (Qe rfl rfl rfl (by decide) (Qe rfl rfl rfl (by decide) (Qu rfl rfl rfl (WpL.nil (QS rfl (Wp.skip (Qb (Qb (Qa (Qc rfl rfl (XE rfl Tryz.underlying9 rfl (Xc rfl rfl rfl ?_))))))))))))
  refine WpL.nil (QA rfl (by omega) ?_)
  refine Wp.skip (Qb (Qa (Qc rfl rfl (Yr rfl Tryz.underlying9 rfl rfl (by omega) (by omega) ?_))))
  have hu1 := u8_lt (s[1]'(by omega))
  change WpL _ _ _ _ _ _ ((61, Value.int .u8 ((s[1]'(by omega)).toNat : Int)) :: _) _
  refine Yk rfl Tryz.underlying5 rfl (Qp (by omega) (by omega)) ?_
  refine Zr rfl rfl rfl (Qp (by omega) (by omega)) ?_
  change WpL _ _ _ _ _ _ ((63, Value.int .i64 (((s[1]'(by omega)).toNat : Int) - 48)) :: _) _
  have hp0 := hdP_3 (QG a) (QH b) (QI d) (bs := (QZ s).drop 3) (lim_o a b d).a.1 h80 h1c h2
  rw [← hbs2, ← hbs1, ← hbs] at hp0
  have hK0 : 1 ≤ ((s[1]'(by omega)).toNat : Int) - 48 ∧ ((s[1]'(by omega)).toNat : Int) - 48 ≤ 6 := by omega
  generalize ((s[1]'(by omega)).toNat : Int) - 48 = K at hp0 hK0 ⊢
  have hpar : ∀ M, parI (QG a) (QH b) (QI d) K (QZ s) 0 2 0 0 M := fun M => by unfold parI; rw [if_neg (by omega)]; exact hp0
  refine Xl rfl rfl ?_
  refine X6 rfl ?_
  intro gH
  refine QE rfl rfl rfl (by rfl) rfl ?_
  refine WpL.nil (Qb (Qa (Qd rfl rfl (WpL.nil (Qb (Qb (Qa (Qj (o2 := 0) rfl rfl rfl (Qm rfl rfl (by rfl) ?_)))))))))
  refine Qk rfl rfl (by repeat' constructor) (Vk _) ?_
  rintro _ _ ⟨rfl, rfl⟩
  simp only [Qv]
  refine WpL.nil (Qh rfl (fun h4 => ?_) (fun h4 => ?_))
  ·refine Qb (Qa (Qd rfl rfl (WpL.nil (Qa (Qj (o2 := 3) rfl rfl rfl (QN rfl rfl rfl (WpL.nil (Qb (Qa ?_)))))))))
   refine Qz (vs := [_, _, _]) rfl rfl rfl (by rfl) ?_
   refine Qk rfl rfl (by repeat' constructor) (Zu _ _ _) ?_
   rintro _ _ ⟨gl, rfl, rfl⟩
   simp only [Qv]
   refine Qd rfl rfl (WpL.nil (Qb (Qa (Qd rfl rfl (WpL.nil (Qb (Qb (Qa (Qd rfl rfl (WpL.nil (Wp.block ?_)))))))))))
   refine Wp.loopD (σ := PaX) (fun x => x.at_ ≤ s.size ∧ x.i ≤ 3 ∧ (XZ K → x.i ≤ 2 ∧ x.M = 1) ∧ parI (QG a) (QH b) (QI d) K (QZ s) x.i x.at_ x.W x.H x.M) [5, 6, 10, 11, 12, 13, 14, 15, 71, 72, 73, 74, 75, 76, 77, 78, 79, 80, 81, 82, 83, 84, 85, 86, 87, 88, 89, 90, 91, 92, 93, 94, 95, 96, 97, 98, 99, 100, 101, 102, 103, 104, 105, 106, 107, 108, 109, 110, 111, 112, 113, 114, 115, 116, 117, 118, 119, 120, 121, 122, 123, 124, 125, 126, 127, 128, 129] (fun x => [(11, .int .i64 (x.i : Int)), (10, .int .i64 (x.at_ : Int))]) (fun x => [QD gH [.int .i64 K, .int .i64 x.W, .int .i64 x.H, .int .i64 x.M] 113, QD gl [.int .i64 (QG a), .int .i64 (QH b), .int .i64 (QI d)] 3, QD gO [.int .i64 0, .int .i64 0, .int .i64 0, .int .i64 0] 113]) (fun x => 3 - x.i) ⟨0, 2, 0, 0, (if XZ K then 1 else 0)⟩ ?_ (by repeat (first | exact FrLe.nil | refine FrLe.cons rfl ?_)) ?_ ?_
   ·exact ⟨by simp only; omega, by simp, fun hb => ⟨by simp, by simp only; rw [if_pos hb]⟩, hpar _⟩
   ·(rw [show (if XZ K then (1 : Int) else 0) = 1 from if_pos h4]; exact Take.ent' (by repeat' constructor))
   ·rintro ⟨i, at_, W, H, M⟩ ⟨hat, hi3, hbk, hpi⟩
    dsimp only at hat hi3 hbk hpi ⊢
    refine Qb (Qb (Qa (Qc rfl rfl (Qc rfl rfl (Xc rfl rfl rfl (WpL.nil (Qh rfl (fun h6 => ?_) (fun h6 => ?_))))))))
    ·have hi : i < 3 := by omega
     refine Wp.skip (Qb (Wp.block ?_))
     refine Qb (Qa (Qc rfl rfl (Qc rfl rfl (Xs i rfl rfl rfl (RdsL.blk (o := 0) (xs := [.int .i64 (QG a), .int .i64 (QH b), .int .i64 (QI d)]) rfl) (by exact Take.ent' (by repeat' constructor)) rfl (by omega) (by simp only [List.length_cons, List.length_nil]; omega) ?_))))
     refine Xv rfl rfl (RdsL.blk (o := 0) (xs := [.int .i64 (QG a), .int .i64 (QH b), .int .i64 (QI d)]) rfl) (by exact Take.ent' (by repeat' constructor)) (lsel_lim a b d i hi) ?_
     refine Qk rfl rfl (by repeat' constructor) (ZO _) ?_
     rintro _ _ ⟨rfl, rfl⟩
     simp only [Qv]
     refine X6 rfl ?_
     intro gN
     refine QE rfl rfl rfl (by rfl) rfl ?_
     refine WpL.nil (Qb (Qa (Qd rfl rfl (WpL.nil (Qb (Wp.block ?_))))))
     refine Wp.loopD (σ := PbX) (fun y => at_ ≤ y.at_ ∧ y.at_ ≤ s.size ∧ (y.k = 0 → Yx (Q0 (QG a) (QH b) (QI d) i) y.t) ∧ Xe (Q0 (QG a) (QH b) (QI d) i) X8 ((QZ s).drop at_) at_ = (if y.k = 0 then Xe (Q0 (QG a) (QH b) (QI d) i) y.t ((QZ s).drop y.at_) y.at_ else (y.t, y.k, (y.at_ : Int)))) [10, 13, 14, 15, 81, 82, 83, 84, 85, 86, 87, 88, 89, 90, 91, 92, 93, 94, 95, 96, 97, 98, 99, 100] (fun y => [(13, .int .i64 y.k), (10, .int .i64 (y.at_ : Int))]) (fun y => [QD gN [.int .i64 y.t.ph, .int .i64 y.t.n, .int .i64 (Q0 (QG a) (QH b) (QI d) i), .int .i64 y.t.e] 170, QD gH [.int .i64 K, .int .i64 W, .int .i64 H, .int .i64 M] 113, QD gl [.int .i64 (QG a), .int .i64 (QH b), .int .i64 (QI d)] 3, QD gO [.int .i64 0, .int .i64 0, .int .i64 0, .int .i64 0] 113]) (fun y => s.size - y.at_) ⟨0, at_, X8⟩ ?_ (by repeat (first | exact FrLe.nil | refine FrLe.cons rfl ?_)) ?_ ?_
     ·exact ⟨Nat.le_refl _, hat, fun _ => (show Yx _ X8 by unfold Yx X8; dsimp only; have := (YU a b d i).1; omega), (if_pos rfl).symm⟩
     ·exact Ent.refl _
     ·rintro ⟨k, at2, t⟩ ⟨ha2, hat2, htk, hnr⟩
      dsimp only at ha2 hat2 htk hnr ⊢
      refine Qb (Qb (Qa (Qc rfl rfl (QJ rfl rfl rfl (Qc rfl rfl (QP rfl rfl rfl (fun hg8 => ?_) (fun hg8 => ?_)))))))
      ·have hg8 := of_decide_eq_true hg8
       refine Qc rfl rfl (Qf rfl rfl (Qc rfl rfl (Qf rfl rfl (XE rfl Tryz.underlying9 rfl (Qf rfl rfl (Xc rfl rfl rfl (Qr rfl rfl rfl (WpL.nil (Qh rfl (fun h8 => ?_) (fun h8 => ?_))))))))))
       ·have hlt : at2 < s.size := by omega
        obtain ⟨cc, hcc⟩ : ∃ cc : Int, cc = ((s[at2]'hlt).toNat : Int) := ⟨_, rfl⟩
        obtain rfl : k = 0 := by assumption
        have htk2 := htk rfl
        rw [if_pos rfl] at hnr
        have hdr := XL hlt
        rw [← hcc] at hdr
        rw [hdr] at hnr
        have hst := ZN hnr
        refine Wp.skip (Wp.block ?_)
        refine Qb ?_
        apply YN (fB := []) mixed 8 [(8, true)] rfl rfl (by kernel_rfl)
        apply Y5 [⟨0, 90, _, [], false⟩, ⟨1, 91, _, [], false⟩, ⟨2, 92, _, [], false⟩, ⟨3, 93, _, [1, 2], false⟩, ⟨4, 94, _, [0, 3], false⟩, ⟨5, 89, _, [4], false⟩, ⟨6, 95, _, [5], false⟩, ⟨7, 96, _, [5], true⟩] [] [0, 1, 2, 3, 4, 5, 6] [15, 96] (.inl ⟨_, .nil⟩) rfl rfl rfl (by kernel_rfl) rfl rfl rfl rfl
        ·refine AllF.cons rfl rfl rfl rfl ?_ ?_
         ·refine Qz (vs := [_, _, _, _]) rfl rfl rfl (by rfl) ?_
          exact Qn rfl
         refine AllF.cons rfl rfl rfl rfl ?_ ?_
         ·exact Qc rfl rfl (Qn rfl)
         refine AllF.cons rfl rfl rfl rfl ?_ ?_
         ·exact Qc rfl rfl (Qn rfl)
         refine AllF.cons rfl rfl rfl rfl ?_ ?_
         ·refine Yr rfl Tryz.underlying9 rfl rfl (by omega) (by omega) ?_
          change WpL _ _ _ _ _ _ ((93, Value.int .u8 ((s[at2]'hlt).toNat : Int)) :: _) _
          rw [← hcc]
          exact Qn rfl
         refine AllF.cons rfl rfl rfl rfl ?_ ?_
         ·refine Qk rfl rfl (by repeat' constructor) (ZP t.ph t.n _ t.e cc (by rw [hcc]; omega) (by rw [hcc]; exact u8_lt _) htk2.2.2.1 (YU a b d i).1 (YU a b d i).2 ⟨htk2.1, by have := htk2.2.1; omega⟩) ?_
          rintro _ _ ⟨rfl, rfl⟩
          simp only [Qv]
          exact WpL.nil ⟨rfl, rfl, rfl, by exact Ent.refl _⟩
         refine AllF.cons rfl rfl rfl rfl ?_ ?_
         ·exact Qc rfl rfl (Qn rfl)
         refine AllF.cons rfl rfl rfl rfl ?_ ?_
         ·exact QL rfl rfl rfl (Qn rfl)
         refine QR rfl rfl rfl rfl ?_ ?_
         ·exact QL rfl rfl rfl (Qn rfl)
         exact AllF.nil
        ·intro gS
         refine QE rfl rfl rfl (by rfl) rfl ?_
         refine WpL.nil ⟨rfl, rfl, ?_⟩
         apply GoR.nil [⟨10, 15, _, [0, 1, 2, 3, 4, 5, 6, 7, 8, 9], false⟩] (.inl ⟨_, .nil⟩) rfl rfl
         ·refine AllF.cons rfl rfl rfl rfl ?_ ?_
          ·exact Qd rfl rfl (Qn rfl)
          exact AllF.nil
         ·refine Qb (Qa ?_)
          refine Qz (vs := [_, _, _, _]) rfl rfl rfl (by rfl) ?_
          refine QE rfl rfl rfl (by rfl) rfl ?_
          refine WpL.nil (Qb (Qa (Qc rfl rfl (Qd rfl rfl (WpL.nil (Qa (Qc rfl rfl (Qx rfl rfl rfl (Qp (by omega) (by omega)) ?_))))))))
          refine Qd rfl rfl (WpL.nil (Qq (Q := fun _ _ _ _ => False) (⟨(QC (Q0 (QG a) (QH b) (QI d) i) t cc).2, at2 + 1, (QC (Q0 (QG a) (QH b) (QI d) i) t cc).1⟩ : PbX) ?_ ?_ (by ((repeat (first | exact Top.refl | refine Top.push rfl ?_)); done)) (by repeat (first | exact FrLe.nil | refine FrLe.cons rfl ?_)) ?_))
          ·exact ⟨by simp only; omega, by simp only; omega, fun q => by rcases YM (c := cc) htk2 with z | z | z; exact z.2; exact absurd q (by simp only; omega); exact absurd q (by simp only; omega), hst⟩
          ·simp only; omega
          ·exact Take.ent' (by repeat' constructor)
       ·refine QV (Qb (Qb (Qa (Qc rfl rfl (QJ rfl rfl rfl (WpL.nil (Qh rfl (fun h9 => ?_) (fun h9 => ?_))))))))
        ·have hr : Xe (Q0 (QG a) (QH b) (QI d) i) X8 ((QZ s).drop at_) at_ = (t, k, (at2 : Int)) := by
          by_cases hk0 : k = 0
          ·rw [hnr, if_pos hk0, show (QZ s).drop at2 = [] from List.drop_of_length_le (by rw [Xa]; omega), hk0]; rfl
          ·rw [hnr, if_neg hk0]
         have hps := XM hpi hi (fun hb => ⟨by omega, (hbk hb).2⟩) hr
         refine Qb (Qa ?_)
         refine Xl rfl rfl ?_
         refine Qc rfl rfl ?_
         refine QE rfl rfl rfl (by rfl) rfl ?_
         refine Qd rfl rfl (Qd rfl rfl (WpL.nil (Qg ?_)))
         apply RetQ.mk
         ·exact (QY rfl rfl (by rfl) rfl rfl)
         ·exact ⟨0, 0, 0, 0, _, 6, by rw [hps.1 h9, Xa, show s.size = at2 by omega], rfl, rfl⟩
         ·exact Ent.nil _
        ·have hr : Xe (Q0 (QG a) (QH b) (QI d) i) X8 ((QZ s).drop at_) at_ = (t, k, (at2 : Int)) := by
          by_cases hk0 : k = 0
          ·rw [hnr, if_pos hk0, show (QZ s).drop at2 = [] from List.drop_of_length_le (by rw [Xa]; omega), hk0]; rfl
          ·rw [hnr, if_neg hk0]
         have hps := XM hpi hi (fun hb => ⟨by omega, (hbk hb).2⟩) hr
         refine Wp.skip (Qb (Qb (Qa (Qc rfl rfl (QJ rfl rfl rfl (WpL.nil (Qh rfl (fun h10 => ?_) (fun h10 => ?_))))))))
         ·refine Qb ?_
          apply Xk (fB := [QD gN [.int .i64 t.ph, .int .i64 t.n, .int .i64 (Q0 (QG a) (QH b) (QI d) i), .int .i64 t.e] 170]) mixed [(4, false)] (by kernel_rfl)
          apply Xd [⟨0, 107, _, [], false⟩, ⟨1, 108, _, [], true⟩, ⟨2, 109, _, [], true⟩, ⟨3, 110, _, [2], true⟩] [] [0] [5, 6, 108, 109, 110] (.inl ⟨_, by repeat' constructor⟩) rfl rfl rfl (by kernel_rfl) rfl rfl rfl
          ·refine AllF.cons rfl rfl rfl rfl ?_ ?_
           ·refine Xl rfl rfl ?_
            exact Qn rfl
           refine QR rfl rfl rfl rfl ?_ ?_
           ·exact Qc rfl rfl (Qn rfl)
           refine QR rfl rfl rfl rfl ?_ ?_
           ·exact Qj (o2 := 3) rfl rfl rfl (Qn rfl)
           refine QR rfl rfl rfl rfl ?_ ?_
           ·refine Qm rfl rfl (by rfl) ?_
            exact Qn rfl
           exact AllF.nil
          ·refine QE rfl rfl rfl (by rfl) rfl ?_
           refine WpL.nil ⟨rfl, rfl, ?_⟩
           apply GoR.nil [⟨5, 5, _, [0, 1, 4], false⟩, ⟨6, 6, _, [0, 1, 2, 3, 4, 5], false⟩] (.inl ⟨_, by repeat' constructor⟩) rfl rfl
           ·refine AllF.cons rfl rfl rfl rfl ?_ ?_
            ·exact Qd rfl rfl (Qn rfl)
            refine AllF.cons rfl rfl rfl rfl ?_ ?_
            ·exact Qd rfl rfl (Qn rfl)
            exact AllF.nil
           ·refine Qg ?_
            apply RetQ.mk
            ·exact (QY rfl rfl (by rfl) rfl rfl)
            ·exact ⟨0, 0, 0, 0, _, _, by rw [hps.2.1 h10], rfl, rfl⟩
            ·exact Ent.nil _
         ·refine Wp.skip (Qb (Qb (Qa (Qj (o2 := 1) rfl rfl rfl (Qm rfl rfl (by rfl) ?_)))))
          refine QJ rfl rfl rfl (WpL.nil (Qh rfl (fun h11 => ?_) (fun h11 => ?_)))
          ·refine Qb (Qa ?_)
           refine Xl rfl rfl ?_
           refine Qc rfl rfl ?_
           refine QE rfl rfl rfl (by rfl) rfl ?_
           refine Qd rfl rfl (Qd rfl rfl (WpL.nil (Qg ?_)))
           apply RetQ.mk
           ·exact (QY rfl rfl (by rfl) rfl rfl)
           ·exact ⟨0, 0, 0, 0, _, 4, by rw [hps.2.2.1 h9 h10 h11], rfl, rfl⟩
           ·exact Ent.nil _
          ·have hpn := hps.2.2.2 h9 h10 h11
           rw [Int.toNat_natCast] at hpn
           refine Wp.skip (Qb (Qa (Qc rfl rfl (WpL.nil (Wp.block ?_)))))
           refine Qb (Qa (QJ rfl rfl rfl (Qd rfl rfl (WpL.nil (Qh rfl (fun h12 => ?_) (fun h12 => ?_))))))
           ·refine Qa (Qj (o2 := 1) rfl rfl rfl (Qm rfl rfl (by rfl) ?_))
            refine Qj (o2 := 1) rfl rfl rfl (QN rfl rfl rfl (WpL.nil (Qa (Qc rfl rfl (Qx rfl rfl rfl (Qp (by omega) (by omega)) ?_)))))
            refine Qd rfl rfl (WpL.nil (Qq (⟨i + 1, at2, t.n, H, M⟩ : PaX) ?_ ?_ (by ((repeat (first | exact Top.refl | refine Top.push rfl ?_)); done)) (by repeat (first | exact FrLe.nil | refine FrLe.cons rfl ?_)) ?_))
            ·have e : i = 0 := by omega
             subst e
             exact ⟨hat2, by simp only; omega, fun hb => ⟨by simp only; omega, by exact (hbk hb).2⟩, hpn⟩
            ·simp only; omega
            ·exact Take.ent' (by repeat' constructor)
           ·refine Qb (Qa (QJ rfl rfl rfl (Qd rfl rfl (WpL.nil (Qh rfl (fun h13 => ?_) (fun h13 => ?_))))))
            ·refine Qa (Qj (o2 := 1) rfl rfl rfl (Qm rfl rfl (by rfl) ?_))
             refine Qj (o2 := 2) rfl rfl rfl (QN rfl rfl rfl (WpL.nil (Qa (Qc rfl rfl (Qx rfl rfl rfl (Qp (by omega) (by omega)) ?_)))))
             refine Qd rfl rfl (WpL.nil (Qq (⟨i + 1, at2, W, t.n, M⟩ : PaX) ?_ ?_ (by ((repeat (first | exact Top.refl | refine Top.push rfl ?_)); done)) (by repeat (first | exact FrLe.nil | refine FrLe.cons rfl ?_)) ?_))
             ·have e : i = 1 := by omega
              subst e
              exact ⟨hat2, by simp only; omega, fun hb => ⟨by simp only; omega, by exact (hbk hb).2⟩, hpn⟩
             ·simp only; omega
             ·exact Take.ent' (by repeat' constructor)
            ·refine Qa (Qj (o2 := 1) rfl rfl rfl (Qm rfl rfl (by rfl) ?_))
             refine Qj (o2 := 3) rfl rfl rfl (QN rfl rfl rfl (WpL.nil (Qa (Qc rfl rfl (Qx rfl rfl rfl (Qp (by omega) (by omega)) ?_)))))
             refine Qd rfl rfl (WpL.nil (Qq (⟨i + 1, at2, W, H, t.n⟩ : PaX) ?_ ?_ (by ((repeat (first | exact Top.refl | refine Top.push rfl ?_)); done)) (by repeat (first | exact FrLe.nil | refine FrLe.cons rfl ?_)) ?_))
             ·have e : i = 2 := by omega
              subst e
              exact ⟨hat2, by simp only; omega, fun hb => ⟨by simp only; omega, by (exfalso; have := (hbk hb).1; omega)⟩, hpn⟩
             ·simp only; omega
             ·exact Take.ent' (by repeat' constructor)
      ·have hg8 := of_decide_eq_false hg8
       refine Qe rfl rfl rfl (by decide) (Qe rfl rfl rfl (by decide) (Qe rfl rfl rfl (by decide) (Qu rfl rfl rfl (WpL.nil (QS rfl (QV (Qb (Qb (Qa (Qc rfl rfl (QJ rfl rfl rfl (WpL.nil ?_))))))))))))
       refine Qh rfl (fun h9 => ?_) (fun h9 => ?_)
       ·have hr : Xe (Q0 (QG a) (QH b) (QI d) i) X8 ((QZ s).drop at_) at_ = (t, k, (at2 : Int)) := by
         by_cases hk0 : k = 0
         ·rw [hnr, if_pos hk0, show (QZ s).drop at2 = [] from List.drop_of_length_le (by rw [Xa]; omega), hk0]; rfl
         ·rw [hnr, if_neg hk0]
        have hps := XM hpi hi (fun hb => ⟨by omega, (hbk hb).2⟩) hr
        refine Qb (Qa ?_)
        refine Xl rfl rfl ?_
        refine Qc rfl rfl ?_
        refine QE rfl rfl rfl (by rfl) rfl ?_
        refine Qd rfl rfl (Qd rfl rfl (WpL.nil (Qg ?_)))
        apply RetQ.mk
        ·exact (QY rfl rfl (by rfl) rfl rfl)
        ·exact ⟨0, 0, 0, 0, _, 6, by rw [hps.1 h9, Xa, show s.size = at2 by omega], rfl, rfl⟩
        ·exact Ent.nil _
       ·have hr : Xe (Q0 (QG a) (QH b) (QI d) i) X8 ((QZ s).drop at_) at_ = (t, k, (at2 : Int)) := by
         by_cases hk0 : k = 0
         ·rw [hnr, if_pos hk0, show (QZ s).drop at2 = [] from List.drop_of_length_le (by rw [Xa]; omega), hk0]; rfl
         ·rw [hnr, if_neg hk0]
        have hps := XM hpi hi (fun hb => ⟨by omega, (hbk hb).2⟩) hr
        refine Wp.skip (Qb (Qb (Qa (Qc rfl rfl (QJ rfl rfl rfl (WpL.nil (Qh rfl (fun h10 => ?_) (fun h10 => ?_))))))))
        ·refine Qb ?_
         apply Xk (fB := [QD gN [.int .i64 t.ph, .int .i64 t.n, .int .i64 (Q0 (QG a) (QH b) (QI d) i), .int .i64 t.e] 170]) mixed [(4, false)] (by kernel_rfl)
         apply Xd [⟨0, 107, _, [], false⟩, ⟨1, 108, _, [], true⟩, ⟨2, 109, _, [], true⟩, ⟨3, 110, _, [2], true⟩] [] [0] [5, 6, 108, 109, 110] (.inl ⟨_, by repeat' constructor⟩) rfl rfl rfl (by kernel_rfl) rfl rfl rfl
         ·refine AllF.cons rfl rfl rfl rfl ?_ ?_
          ·refine Xl rfl rfl ?_
           exact Qn rfl
          refine QR rfl rfl rfl rfl ?_ ?_
          ·exact Qc rfl rfl (Qn rfl)
          refine QR rfl rfl rfl rfl ?_ ?_
          ·exact Qj (o2 := 3) rfl rfl rfl (Qn rfl)
          refine QR rfl rfl rfl rfl ?_ ?_
          ·refine Qm rfl rfl (by rfl) ?_
           exact Qn rfl
          exact AllF.nil
         ·refine QE rfl rfl rfl (by rfl) rfl ?_
          refine WpL.nil ⟨rfl, rfl, ?_⟩
          apply GoR.nil [⟨5, 5, _, [0, 1, 4], false⟩, ⟨6, 6, _, [0, 1, 2, 3, 4, 5], false⟩] (.inl ⟨_, by repeat' constructor⟩) rfl rfl
          ·refine AllF.cons rfl rfl rfl rfl ?_ ?_
           ·exact Qd rfl rfl (Qn rfl)
           refine AllF.cons rfl rfl rfl rfl ?_ ?_
           ·exact Qd rfl rfl (Qn rfl)
           exact AllF.nil
          ·refine Qg ?_
           apply RetQ.mk
           ·exact (QY rfl rfl (by rfl) rfl rfl)
           ·exact ⟨0, 0, 0, 0, _, _, by rw [hps.2.1 h10], rfl, rfl⟩
           ·exact Ent.nil _
        ·refine Wp.skip (Qb (Qb (Qa (Qj (o2 := 1) rfl rfl rfl (Qm rfl rfl (by rfl) ?_)))))
         refine QJ rfl rfl rfl (WpL.nil (Qh rfl (fun h11 => ?_) (fun h11 => ?_)))
         ·refine Qb (Qa ?_)
          refine Xl rfl rfl ?_
          refine Qc rfl rfl ?_
          refine QE rfl rfl rfl (by rfl) rfl ?_
          refine Qd rfl rfl (Qd rfl rfl (WpL.nil (Qg ?_)))
          apply RetQ.mk
          ·exact (QY rfl rfl (by rfl) rfl rfl)
          ·exact ⟨0, 0, 0, 0, _, 4, by rw [hps.2.2.1 h9 h10 h11], rfl, rfl⟩
          ·exact Ent.nil _
         ·have hpn := hps.2.2.2 h9 h10 h11
          rw [Int.toNat_natCast] at hpn
          refine Wp.skip (Qb (Qa (Qc rfl rfl (WpL.nil (Wp.block ?_)))))
          refine Qb (Qa (QJ rfl rfl rfl (Qd rfl rfl (WpL.nil (Qh rfl (fun h12 => ?_) (fun h12 => ?_))))))
          ·refine Qa (Qj (o2 := 1) rfl rfl rfl (Qm rfl rfl (by rfl) ?_))
           refine Qj (o2 := 1) rfl rfl rfl (QN rfl rfl rfl (WpL.nil (Qa (Qc rfl rfl (Qx rfl rfl rfl (Qp (by omega) (by omega)) ?_)))))
           refine Qd rfl rfl (WpL.nil (Qq (⟨i + 1, at2, t.n, H, M⟩ : PaX) ?_ ?_ (by ((repeat (first | exact Top.refl | refine Top.push rfl ?_)); done)) (by repeat (first | exact FrLe.nil | refine FrLe.cons rfl ?_)) ?_))
           ·have e : i = 0 := by omega
            subst e
            exact ⟨hat2, by simp only; omega, fun hb => ⟨by simp only; omega, by exact (hbk hb).2⟩, hpn⟩
           ·simp only; omega
           ·exact Take.ent' (by repeat' constructor)
          ·refine Qb (Qa (QJ rfl rfl rfl (Qd rfl rfl (WpL.nil (Qh rfl (fun h13 => ?_) (fun h13 => ?_))))))
           ·refine Qa (Qj (o2 := 1) rfl rfl rfl (Qm rfl rfl (by rfl) ?_))
            refine Qj (o2 := 2) rfl rfl rfl (QN rfl rfl rfl (WpL.nil (Qa (Qc rfl rfl (Qx rfl rfl rfl (Qp (by omega) (by omega)) ?_)))))
            refine Qd rfl rfl (WpL.nil (Qq (⟨i + 1, at2, W, t.n, M⟩ : PaX) ?_ ?_ (by ((repeat (first | exact Top.refl | refine Top.push rfl ?_)); done)) (by repeat (first | exact FrLe.nil | refine FrLe.cons rfl ?_)) ?_))
            ·have e : i = 1 := by omega
             subst e
             exact ⟨hat2, by simp only; omega, fun hb => ⟨by simp only; omega, by exact (hbk hb).2⟩, hpn⟩
            ·simp only; omega
            ·exact Take.ent' (by repeat' constructor)
           ·refine Qa (Qj (o2 := 1) rfl rfl rfl (Qm rfl rfl (by rfl) ?_))
            refine Qj (o2 := 3) rfl rfl rfl (QN rfl rfl rfl (WpL.nil (Qa (Qc rfl rfl (Qx rfl rfl rfl (Qp (by omega) (by omega)) ?_)))))
            refine Qd rfl rfl (WpL.nil (Qq (⟨i + 1, at2, W, H, t.n⟩ : PaX) ?_ ?_ (by ((repeat (first | exact Top.refl | refine Top.push rfl ?_)); done)) (by repeat (first | exact FrLe.nil | refine FrLe.cons rfl ?_)) ?_))
            ·have e : i = 2 := by omega
             subst e
             exact ⟨hat2, by simp only; omega, fun hb => ⟨by simp only; omega, by (exfalso; have := (hbk hb).1; omega)⟩, hpn⟩
            ·simp only; omega
            ·exact Take.ent' (by repeat' constructor)
    ·refine QV (Qb (Qa ?_))
     refine Qz (vs := [_, _, _, _]) rfl rfl rfl (by rfl) ?_
     refine Qc rfl rfl ?_
     refine QE rfl rfl rfl (by rfl) rfl ?_
     refine Qd rfl rfl (Qd rfl rfl (WpL.nil (Qg ?_)))
     apply RetQ.mk
     ·exact (QY rfl rfl (by rfl) rfl rfl)
     ·exact ⟨K, W, H, M, _, 0, by unfold parI at hpi; rw [hpi, if_pos (by exact .inr ⟨by have := (hbk h4).1; omega, h4⟩)], rfl, rfl⟩
     ·exact Ent.nil _
  ·refine Wp.skip (Qb (Qa ?_))
   refine Qz (vs := [_, _, _]) rfl rfl rfl (by rfl) ?_
   refine Qk rfl rfl (by repeat' constructor) (Zu _ _ _) ?_
   rintro _ _ ⟨gl, rfl, rfl⟩
   simp only [Qv]
   refine Qd rfl rfl (WpL.nil (Qb (Qa (Qd rfl rfl (WpL.nil (Qb (Qb (Qa (Qd rfl rfl (WpL.nil (Wp.block ?_)))))))))))
   refine Wp.loopD (σ := PaX) (fun x => x.at_ ≤ s.size ∧ x.i ≤ 3 ∧ (XZ K → x.i ≤ 2 ∧ x.M = 1) ∧ parI (QG a) (QH b) (QI d) K (QZ s) x.i x.at_ x.W x.H x.M) [5, 6, 10, 11, 12, 13, 14, 15, 71, 72, 73, 74, 75, 76, 77, 78, 79, 80, 81, 82, 83, 84, 85, 86, 87, 88, 89, 90, 91, 92, 93, 94, 95, 96, 97, 98, 99, 100, 101, 102, 103, 104, 105, 106, 107, 108, 109, 110, 111, 112, 113, 114, 115, 116, 117, 118, 119, 120, 121, 122, 123, 124, 125, 126, 127, 128, 129] (fun x => [(11, .int .i64 (x.i : Int)), (10, .int .i64 (x.at_ : Int))]) (fun x => [QD gH [.int .i64 K, .int .i64 x.W, .int .i64 x.H, .int .i64 x.M] 113, QD gl [.int .i64 (QG a), .int .i64 (QH b), .int .i64 (QI d)] 3, QD gO [.int .i64 0, .int .i64 0, .int .i64 0, .int .i64 0] 113]) (fun x => 3 - x.i) ⟨0, 2, 0, 0, (if XZ K then 1 else 0)⟩ ?_ (by repeat (first | exact FrLe.nil | refine FrLe.cons rfl ?_)) ?_ ?_
   ·exact ⟨by simp only; omega, by simp, fun hb => ⟨by simp, by simp only; rw [if_pos hb]⟩, hpar _⟩
   ·(rw [show (if XZ K then (1 : Int) else 0) = 0 from if_neg h4]; exact Take.ent' (by repeat' constructor))
   ·rintro ⟨i, at_, W, H, M⟩ ⟨hat, hi3, hbk, hpi⟩
    dsimp only at hat hi3 hbk hpi ⊢
    refine Qb (Qb (Qa (Qc rfl rfl (Qc rfl rfl (Xc rfl rfl rfl (WpL.nil (Qh rfl (fun h6 => ?_) (fun h6 => ?_))))))))
    ·have hi : i < 3 := by omega
     refine Wp.skip (Qb (Wp.block ?_))
     refine Qb (Qa (Qc rfl rfl (Qc rfl rfl (Xs i rfl rfl rfl (RdsL.blk (o := 0) (xs := [.int .i64 (QG a), .int .i64 (QH b), .int .i64 (QI d)]) rfl) (by exact Take.ent' (by repeat' constructor)) rfl (by omega) (by simp only [List.length_cons, List.length_nil]; omega) ?_))))
     refine Xv rfl rfl (RdsL.blk (o := 0) (xs := [.int .i64 (QG a), .int .i64 (QH b), .int .i64 (QI d)]) rfl) (by exact Take.ent' (by repeat' constructor)) (lsel_lim a b d i hi) ?_
     refine Qk rfl rfl (by repeat' constructor) (ZO _) ?_
     rintro _ _ ⟨rfl, rfl⟩
     simp only [Qv]
     refine X6 rfl ?_
     intro gN
     refine QE rfl rfl rfl (by rfl) rfl ?_
     refine WpL.nil (Qb (Qa (Qd rfl rfl (WpL.nil (Qb (Wp.block ?_))))))
     refine Wp.loopD (σ := PbX) (fun y => at_ ≤ y.at_ ∧ y.at_ ≤ s.size ∧ (y.k = 0 → Yx (Q0 (QG a) (QH b) (QI d) i) y.t) ∧ Xe (Q0 (QG a) (QH b) (QI d) i) X8 ((QZ s).drop at_) at_ = (if y.k = 0 then Xe (Q0 (QG a) (QH b) (QI d) i) y.t ((QZ s).drop y.at_) y.at_ else (y.t, y.k, (y.at_ : Int)))) [10, 13, 14, 15, 81, 82, 83, 84, 85, 86, 87, 88, 89, 90, 91, 92, 93, 94, 95, 96, 97, 98, 99, 100] (fun y => [(13, .int .i64 y.k), (10, .int .i64 (y.at_ : Int))]) (fun y => [QD gN [.int .i64 y.t.ph, .int .i64 y.t.n, .int .i64 (Q0 (QG a) (QH b) (QI d) i), .int .i64 y.t.e] 170, QD gH [.int .i64 K, .int .i64 W, .int .i64 H, .int .i64 M] 113, QD gl [.int .i64 (QG a), .int .i64 (QH b), .int .i64 (QI d)] 3, QD gO [.int .i64 0, .int .i64 0, .int .i64 0, .int .i64 0] 113]) (fun y => s.size - y.at_) ⟨0, at_, X8⟩ ?_ (by repeat (first | exact FrLe.nil | refine FrLe.cons rfl ?_)) ?_ ?_
     ·exact ⟨Nat.le_refl _, hat, fun _ => (show Yx _ X8 by unfold Yx X8; dsimp only; have := (YU a b d i).1; omega), (if_pos rfl).symm⟩
     ·exact Ent.refl _
     ·rintro ⟨k, at2, t⟩ ⟨ha2, hat2, htk, hnr⟩
      dsimp only at ha2 hat2 htk hnr ⊢
      refine Qb (Qb (Qa (Qc rfl rfl (QJ rfl rfl rfl (Qc rfl rfl (QP rfl rfl rfl (fun hg9 => ?_) (fun hg9 => ?_)))))))
      ·have hg9 := of_decide_eq_true hg9
       refine Qc rfl rfl (Qf rfl rfl (Qc rfl rfl (Qf rfl rfl (XE rfl Tryz.underlying9 rfl (Qf rfl rfl (Xc rfl rfl rfl (Qr rfl rfl rfl (WpL.nil (Qh rfl (fun h8 => ?_) (fun h8 => ?_))))))))))
       ·have hlt : at2 < s.size := by omega
        obtain ⟨cc, hcc⟩ : ∃ cc : Int, cc = ((s[at2]'hlt).toNat : Int) := ⟨_, rfl⟩
        obtain rfl : k = 0 := by assumption
        have htk2 := htk rfl
        rw [if_pos rfl] at hnr
        have hdr := XL hlt
        rw [← hcc] at hdr
        rw [hdr] at hnr
        have hst := ZN hnr
        refine Wp.skip (Wp.block ?_)
        refine Qb ?_
        apply YN (fB := []) mixed 8 [(8, true)] rfl rfl (by kernel_rfl)
        apply Y5 [⟨0, 90, _, [], false⟩, ⟨1, 91, _, [], false⟩, ⟨2, 92, _, [], false⟩, ⟨3, 93, _, [1, 2], false⟩, ⟨4, 94, _, [0, 3], false⟩, ⟨5, 89, _, [4], false⟩, ⟨6, 95, _, [5], false⟩, ⟨7, 96, _, [5], true⟩] [] [0, 1, 2, 3, 4, 5, 6] [15, 96] (.inl ⟨_, .nil⟩) rfl rfl rfl (by kernel_rfl) rfl rfl rfl rfl
        ·refine AllF.cons rfl rfl rfl rfl ?_ ?_
         ·refine Qz (vs := [_, _, _, _]) rfl rfl rfl (by rfl) ?_
          exact Qn rfl
         refine AllF.cons rfl rfl rfl rfl ?_ ?_
         ·exact Qc rfl rfl (Qn rfl)
         refine AllF.cons rfl rfl rfl rfl ?_ ?_
         ·exact Qc rfl rfl (Qn rfl)
         refine AllF.cons rfl rfl rfl rfl ?_ ?_
         ·refine Yr rfl Tryz.underlying9 rfl rfl (by omega) (by omega) ?_
          change WpL _ _ _ _ _ _ ((93, Value.int .u8 ((s[at2]'hlt).toNat : Int)) :: _) _
          rw [← hcc]
          exact Qn rfl
         refine AllF.cons rfl rfl rfl rfl ?_ ?_
         ·refine Qk rfl rfl (by repeat' constructor) (ZP t.ph t.n _ t.e cc (by rw [hcc]; omega) (by rw [hcc]; exact u8_lt _) htk2.2.2.1 (YU a b d i).1 (YU a b d i).2 ⟨htk2.1, by have := htk2.2.1; omega⟩) ?_
          rintro _ _ ⟨rfl, rfl⟩
          simp only [Qv]
          exact WpL.nil ⟨rfl, rfl, rfl, by exact Ent.refl _⟩
         refine AllF.cons rfl rfl rfl rfl ?_ ?_
         ·exact Qc rfl rfl (Qn rfl)
         refine AllF.cons rfl rfl rfl rfl ?_ ?_
         ·exact QL rfl rfl rfl (Qn rfl)
         refine QR rfl rfl rfl rfl ?_ ?_
         ·exact QL rfl rfl rfl (Qn rfl)
         exact AllF.nil
        ·intro gS
         refine QE rfl rfl rfl (by rfl) rfl ?_
         refine WpL.nil ⟨rfl, rfl, ?_⟩
         apply GoR.nil [⟨10, 15, _, [0, 1, 2, 3, 4, 5, 6, 7, 8, 9], false⟩] (.inl ⟨_, .nil⟩) rfl rfl
         ·refine AllF.cons rfl rfl rfl rfl ?_ ?_
          ·exact Qd rfl rfl (Qn rfl)
          exact AllF.nil
         ·refine Qb (Qa ?_)
          refine Qz (vs := [_, _, _, _]) rfl rfl rfl (by rfl) ?_
          refine QE rfl rfl rfl (by rfl) rfl ?_
          refine WpL.nil (Qb (Qa (Qc rfl rfl (Qd rfl rfl (WpL.nil (Qa (Qc rfl rfl (Qx rfl rfl rfl (Qp (by omega) (by omega)) ?_))))))))
          refine Qd rfl rfl (WpL.nil (Qq (Q := fun _ _ _ _ => False) (⟨(QC (Q0 (QG a) (QH b) (QI d) i) t cc).2, at2 + 1, (QC (Q0 (QG a) (QH b) (QI d) i) t cc).1⟩ : PbX) ?_ ?_ (by ((repeat (first | exact Top.refl | refine Top.push rfl ?_)); done)) (by repeat (first | exact FrLe.nil | refine FrLe.cons rfl ?_)) ?_))
          ·exact ⟨by simp only; omega, by simp only; omega, fun q => by rcases YM (c := cc) htk2 with z | z | z; exact z.2; exact absurd q (by simp only; omega); exact absurd q (by simp only; omega), hst⟩
          ·simp only; omega
          ·exact Take.ent' (by repeat' constructor)
       ·refine QV (Qb (Qb (Qa (Qc rfl rfl (QJ rfl rfl rfl (WpL.nil (Qh rfl (fun h9 => ?_) (fun h9 => ?_))))))))
        ·have hr : Xe (Q0 (QG a) (QH b) (QI d) i) X8 ((QZ s).drop at_) at_ = (t, k, (at2 : Int)) := by
          by_cases hk0 : k = 0
          ·rw [hnr, if_pos hk0, show (QZ s).drop at2 = [] from List.drop_of_length_le (by rw [Xa]; omega), hk0]; rfl
          ·rw [hnr, if_neg hk0]
         have hps := XM hpi hi (fun hb => ⟨by exact absurd hb h4, (hbk hb).2⟩) hr
         refine Qb (Qa ?_)
         refine Xl rfl rfl ?_
         refine Qc rfl rfl ?_
         refine QE rfl rfl rfl (by rfl) rfl ?_
         refine Qd rfl rfl (Qd rfl rfl (WpL.nil (Qg ?_)))
         apply RetQ.mk
         ·exact (QY rfl rfl (by rfl) rfl rfl)
         ·exact ⟨0, 0, 0, 0, _, 6, by rw [hps.1 h9, Xa, show s.size = at2 by omega], rfl, rfl⟩
         ·exact Ent.nil _
        ·have hr : Xe (Q0 (QG a) (QH b) (QI d) i) X8 ((QZ s).drop at_) at_ = (t, k, (at2 : Int)) := by
          by_cases hk0 : k = 0
          ·rw [hnr, if_pos hk0, show (QZ s).drop at2 = [] from List.drop_of_length_le (by rw [Xa]; omega), hk0]; rfl
          ·rw [hnr, if_neg hk0]
         have hps := XM hpi hi (fun hb => ⟨by omega, (hbk hb).2⟩) hr
         refine Wp.skip (Qb (Qb (Qa (Qc rfl rfl (QJ rfl rfl rfl (WpL.nil (Qh rfl (fun h10 => ?_) (fun h10 => ?_))))))))
         ·refine Qb ?_
          apply Xk (fB := [QD gN [.int .i64 t.ph, .int .i64 t.n, .int .i64 (Q0 (QG a) (QH b) (QI d) i), .int .i64 t.e] 170]) mixed [(4, false)] (by kernel_rfl)
          apply Xd [⟨0, 107, _, [], false⟩, ⟨1, 108, _, [], true⟩, ⟨2, 109, _, [], true⟩, ⟨3, 110, _, [2], true⟩] [] [0] [5, 6, 108, 109, 110] (.inl ⟨_, by repeat' constructor⟩) rfl rfl rfl (by kernel_rfl) rfl rfl rfl
          ·refine AllF.cons rfl rfl rfl rfl ?_ ?_
           ·refine Xl rfl rfl ?_
            exact Qn rfl
           refine QR rfl rfl rfl rfl ?_ ?_
           ·exact Qc rfl rfl (Qn rfl)
           refine QR rfl rfl rfl rfl ?_ ?_
           ·exact Qj (o2 := 3) rfl rfl rfl (Qn rfl)
           refine QR rfl rfl rfl rfl ?_ ?_
           ·refine Qm rfl rfl (by rfl) ?_
            exact Qn rfl
           exact AllF.nil
          ·refine QE rfl rfl rfl (by rfl) rfl ?_
           refine WpL.nil ⟨rfl, rfl, ?_⟩
           apply GoR.nil [⟨5, 5, _, [0, 1, 4], false⟩, ⟨6, 6, _, [0, 1, 2, 3, 4, 5], false⟩] (.inl ⟨_, by repeat' constructor⟩) rfl rfl
           ·refine AllF.cons rfl rfl rfl rfl ?_ ?_
            ·exact Qd rfl rfl (Qn rfl)
            refine AllF.cons rfl rfl rfl rfl ?_ ?_
            ·exact Qd rfl rfl (Qn rfl)
            exact AllF.nil
           ·refine Qg ?_
            apply RetQ.mk
            ·exact (QY rfl rfl (by rfl) rfl rfl)
            ·exact ⟨0, 0, 0, 0, _, _, by rw [hps.2.1 h10], rfl, rfl⟩
            ·exact Ent.nil _
         ·refine Wp.skip (Qb (Qb (Qa (Qj (o2 := 1) rfl rfl rfl (Qm rfl rfl (by rfl) ?_)))))
          refine QJ rfl rfl rfl (WpL.nil (Qh rfl (fun h11 => ?_) (fun h11 => ?_)))
          ·refine Qb (Qa ?_)
           refine Xl rfl rfl ?_
           refine Qc rfl rfl ?_
           refine QE rfl rfl rfl (by rfl) rfl ?_
           refine Qd rfl rfl (Qd rfl rfl (WpL.nil (Qg ?_)))
           apply RetQ.mk
           ·exact (QY rfl rfl (by rfl) rfl rfl)
           ·exact ⟨0, 0, 0, 0, _, 4, by rw [hps.2.2.1 h9 h10 h11], rfl, rfl⟩
           ·exact Ent.nil _
          ·have hpn := hps.2.2.2 h9 h10 h11
           rw [Int.toNat_natCast] at hpn
           refine Wp.skip (Qb (Qa (Qc rfl rfl (WpL.nil (Wp.block ?_)))))
           refine Qb (Qa (QJ rfl rfl rfl (Qd rfl rfl (WpL.nil (Qh rfl (fun h12 => ?_) (fun h12 => ?_))))))
           ·refine Qa (Qj (o2 := 1) rfl rfl rfl (Qm rfl rfl (by rfl) ?_))
            refine Qj (o2 := 1) rfl rfl rfl (QN rfl rfl rfl (WpL.nil (Qa (Qc rfl rfl (Qx rfl rfl rfl (Qp (by omega) (by omega)) ?_)))))
            refine Qd rfl rfl (WpL.nil (Qq (⟨i + 1, at2, t.n, H, M⟩ : PaX) ?_ ?_ (by ((repeat (first | exact Top.refl | refine Top.push rfl ?_)); done)) (by repeat (first | exact FrLe.nil | refine FrLe.cons rfl ?_)) ?_))
            ·have e : i = 0 := by omega
             subst e
             exact ⟨hat2, by simp only; omega, fun hb => ⟨by simp only; omega, by exact (hbk hb).2⟩, hpn⟩
            ·simp only; omega
            ·exact Take.ent' (by repeat' constructor)
           ·refine Qb (Qa (QJ rfl rfl rfl (Qd rfl rfl (WpL.nil (Qh rfl (fun h13 => ?_) (fun h13 => ?_))))))
            ·refine Qa (Qj (o2 := 1) rfl rfl rfl (Qm rfl rfl (by rfl) ?_))
             refine Qj (o2 := 2) rfl rfl rfl (QN rfl rfl rfl (WpL.nil (Qa (Qc rfl rfl (Qx rfl rfl rfl (Qp (by omega) (by omega)) ?_)))))
             refine Qd rfl rfl (WpL.nil (Qq (⟨i + 1, at2, W, t.n, M⟩ : PaX) ?_ ?_ (by ((repeat (first | exact Top.refl | refine Top.push rfl ?_)); done)) (by repeat (first | exact FrLe.nil | refine FrLe.cons rfl ?_)) ?_))
             ·have e : i = 1 := by omega
              subst e
              exact ⟨hat2, by simp only; omega, fun hb => ⟨by simp only; omega, by exact (hbk hb).2⟩, hpn⟩
             ·simp only; omega
             ·exact Take.ent' (by repeat' constructor)
            ·refine Qa (Qj (o2 := 1) rfl rfl rfl (Qm rfl rfl (by rfl) ?_))
             refine Qj (o2 := 3) rfl rfl rfl (QN rfl rfl rfl (WpL.nil (Qa (Qc rfl rfl (Qx rfl rfl rfl (Qp (by omega) (by omega)) ?_)))))
             refine Qd rfl rfl (WpL.nil (Qq (⟨i + 1, at2, W, H, t.n⟩ : PaX) ?_ ?_ (by ((repeat (first | exact Top.refl | refine Top.push rfl ?_)); done)) (by repeat (first | exact FrLe.nil | refine FrLe.cons rfl ?_)) ?_))
             ·have e : i = 2 := by omega
              subst e
              exact ⟨hat2, by simp only; omega, fun hb => ⟨by simp only; omega, by exact absurd hb h4⟩, hpn⟩
             ·simp only; omega
             ·exact Take.ent' (by repeat' constructor)
      ·have hg9 := of_decide_eq_false hg9
       refine Qe rfl rfl rfl (by decide) (Qe rfl rfl rfl (by decide) (Qe rfl rfl rfl (by decide) (Qu rfl rfl rfl (WpL.nil (QS rfl (QV (Qb (Qb (Qa (Qc rfl rfl (QJ rfl rfl rfl (WpL.nil ?_))))))))))))
       refine Qh rfl (fun h9 => ?_) (fun h9 => ?_)
       ·have hr : Xe (Q0 (QG a) (QH b) (QI d) i) X8 ((QZ s).drop at_) at_ = (t, k, (at2 : Int)) := by
         by_cases hk0 : k = 0
         ·rw [hnr, if_pos hk0, show (QZ s).drop at2 = [] from List.drop_of_length_le (by rw [Xa]; omega), hk0]; rfl
         ·rw [hnr, if_neg hk0]
        have hps := XM hpi hi (fun hb => ⟨by omega, (hbk hb).2⟩) hr
        refine Qb (Qa ?_)
        refine Xl rfl rfl ?_
        refine Qc rfl rfl ?_
        refine QE rfl rfl rfl (by rfl) rfl ?_
        refine Qd rfl rfl (Qd rfl rfl (WpL.nil (Qg ?_)))
        apply RetQ.mk
        ·exact (QY rfl rfl (by rfl) rfl rfl)
        ·exact ⟨0, 0, 0, 0, _, 6, by rw [hps.1 h9, Xa, show s.size = at2 by omega], rfl, rfl⟩
        ·exact Ent.nil _
       ·have hr : Xe (Q0 (QG a) (QH b) (QI d) i) X8 ((QZ s).drop at_) at_ = (t, k, (at2 : Int)) := by
         by_cases hk0 : k = 0
         ·rw [hnr, if_pos hk0, show (QZ s).drop at2 = [] from List.drop_of_length_le (by rw [Xa]; omega), hk0]; rfl
         ·rw [hnr, if_neg hk0]
        have hps := XM hpi hi (fun hb => ⟨by exact absurd hb h4, (hbk hb).2⟩) hr
        refine Wp.skip (Qb (Qb (Qa (Qc rfl rfl (QJ rfl rfl rfl (WpL.nil (Qh rfl (fun h10 => ?_) (fun h10 => ?_))))))))
        ·refine Qb ?_
         apply Xk (fB := [QD gN [.int .i64 t.ph, .int .i64 t.n, .int .i64 (Q0 (QG a) (QH b) (QI d) i), .int .i64 t.e] 170]) mixed [(4, false)] (by kernel_rfl)
         apply Xd [⟨0, 107, _, [], false⟩, ⟨1, 108, _, [], true⟩, ⟨2, 109, _, [], true⟩, ⟨3, 110, _, [2], true⟩] [] [0] [5, 6, 108, 109, 110] (.inl ⟨_, by repeat' constructor⟩) rfl rfl rfl (by kernel_rfl) rfl rfl rfl
         ·refine AllF.cons rfl rfl rfl rfl ?_ ?_
          ·refine Xl rfl rfl ?_
           exact Qn rfl
          refine QR rfl rfl rfl rfl ?_ ?_
          ·exact Qc rfl rfl (Qn rfl)
          refine QR rfl rfl rfl rfl ?_ ?_
          ·exact Qj (o2 := 3) rfl rfl rfl (Qn rfl)
          refine QR rfl rfl rfl rfl ?_ ?_
          ·refine Qm rfl rfl (by rfl) ?_
           exact Qn rfl
          exact AllF.nil
         ·refine QE rfl rfl rfl (by rfl) rfl ?_
          refine WpL.nil ⟨rfl, rfl, ?_⟩
          apply GoR.nil [⟨5, 5, _, [0, 1, 4], false⟩, ⟨6, 6, _, [0, 1, 2, 3, 4, 5], false⟩] (.inl ⟨_, by repeat' constructor⟩) rfl rfl
          ·refine AllF.cons rfl rfl rfl rfl ?_ ?_
           ·exact Qd rfl rfl (Qn rfl)
           refine AllF.cons rfl rfl rfl rfl ?_ ?_
           ·exact Qd rfl rfl (Qn rfl)
           exact AllF.nil
          ·refine Qg ?_
           apply RetQ.mk
           ·exact (QY rfl rfl (by rfl) rfl rfl)
           ·exact ⟨0, 0, 0, 0, _, _, by rw [hps.2.1 h10], rfl, rfl⟩
           ·exact Ent.nil _
        ·refine Wp.skip (Qb (Qb (Qa (Qj (o2 := 1) rfl rfl rfl (Qm rfl rfl (by rfl) ?_)))))
         refine QJ rfl rfl rfl (WpL.nil (Qh rfl (fun h11 => ?_) (fun h11 => ?_)))
         ·refine Qb (Qa ?_)
          refine Xl rfl rfl ?_
          refine Qc rfl rfl ?_
          refine QE rfl rfl rfl (by rfl) rfl ?_
          refine Qd rfl rfl (Qd rfl rfl (WpL.nil (Qg ?_)))
          apply RetQ.mk
          ·exact (QY rfl rfl (by rfl) rfl rfl)
          ·exact ⟨0, 0, 0, 0, _, 4, by rw [hps.2.2.1 h9 h10 h11], rfl, rfl⟩
          ·exact Ent.nil _
         ·have hpn := hps.2.2.2 h9 h10 h11
          rw [Int.toNat_natCast] at hpn
          refine Wp.skip (Qb (Qa (Qc rfl rfl (WpL.nil (Wp.block ?_)))))
          refine Qb (Qa (QJ rfl rfl rfl (Qd rfl rfl (WpL.nil (Qh rfl (fun h12 => ?_) (fun h12 => ?_))))))
          ·refine Qa (Qj (o2 := 1) rfl rfl rfl (Qm rfl rfl (by rfl) ?_))
           refine Qj (o2 := 1) rfl rfl rfl (QN rfl rfl rfl (WpL.nil (Qa (Qc rfl rfl (Qx rfl rfl rfl (Qp (by omega) (by omega)) ?_)))))
           refine Qd rfl rfl (WpL.nil (Qq (⟨i + 1, at2, t.n, H, M⟩ : PaX) ?_ ?_ (by ((repeat (first | exact Top.refl | refine Top.push rfl ?_)); done)) (by repeat (first | exact FrLe.nil | refine FrLe.cons rfl ?_)) ?_))
           ·have e : i = 0 := by omega
            subst e
            exact ⟨hat2, by simp only; omega, fun hb => ⟨by simp only; omega, by exact (hbk hb).2⟩, hpn⟩
           ·simp only; omega
           ·exact Take.ent' (by repeat' constructor)
          ·refine Qb (Qa (QJ rfl rfl rfl (Qd rfl rfl (WpL.nil (Qh rfl (fun h13 => ?_) (fun h13 => ?_))))))
           ·refine Qa (Qj (o2 := 1) rfl rfl rfl (Qm rfl rfl (by rfl) ?_))
            refine Qj (o2 := 2) rfl rfl rfl (QN rfl rfl rfl (WpL.nil (Qa (Qc rfl rfl (Qx rfl rfl rfl (Qp (by omega) (by omega)) ?_)))))
            refine Qd rfl rfl (WpL.nil (Qq (⟨i + 1, at2, W, t.n, M⟩ : PaX) ?_ ?_ (by ((repeat (first | exact Top.refl | refine Top.push rfl ?_)); done)) (by repeat (first | exact FrLe.nil | refine FrLe.cons rfl ?_)) ?_))
            ·have e : i = 1 := by omega
             subst e
             exact ⟨hat2, by simp only; omega, fun hb => ⟨by simp only; omega, by exact (hbk hb).2⟩, hpn⟩
            ·simp only; omega
            ·exact Take.ent' (by repeat' constructor)
           ·refine Qa (Qj (o2 := 1) rfl rfl rfl (Qm rfl rfl (by rfl) ?_))
            refine Qj (o2 := 3) rfl rfl rfl (QN rfl rfl rfl (WpL.nil (Qa (Qc rfl rfl (Qx rfl rfl rfl (Qp (by omega) (by omega)) ?_)))))
            refine Qd rfl rfl (WpL.nil (Qq (⟨i + 1, at2, W, H, t.n⟩ : PaX) ?_ ?_ (by ((repeat (first | exact Top.refl | refine Top.push rfl ?_)); done)) (by repeat (first | exact FrLe.nil | refine FrLe.cons rfl ?_)) ?_))
            ·have e : i = 2 := by omega
             subst e
             exact ⟨hat2, by simp only; omega, fun hb => ⟨by simp only; exact absurd hb h4, by exact absurd hb h4⟩, hpn⟩
            ·simp only; omega
            ·exact Take.ent' (by repeat' constructor)
    ·refine QV (Qb (Qa ?_))
     refine Qz (vs := [_, _, _, _]) rfl rfl rfl (by rfl) ?_
     refine Qc rfl rfl ?_
     refine QE rfl rfl rfl (by rfl) rfl ?_
     refine Qd rfl rfl (Qd rfl rfl (WpL.nil (Qg ?_)))
     apply RetQ.mk
     ·exact (QY rfl rfl (by rfl) rfl rfl)
     ·exact ⟨K, W, H, M, _, 0, by unfold parI at hpi; rw [hpi, if_pos (by exact .inl (by omega))], rfl, rfl⟩
     ·exact Ent.nil _


theorem rParse_spec (a b d : Int) (s : ByteArray) (hsz : s.size ≤ 1000000000000) : Fn Tryz.prog 56 #[.string s, .agg #[.int .i64 a, .int .i64 b, .int .i64 d]] [] (fun v l => ∃ K W H M n e, ((K, W, H, M), n, e) = hdP (QG a) (QH b) (QI d) (QZ s) ∧ v = .tuple #[.agg #[.int .i64 K, .int .i64 W, .int .i64 H, .int .i64 M], .int .i64 n, .int .i64 e] ∧ l = []) := by
  by_cases h0 : s.size = 0
  · exact rParse_A a b d s h0
  by_cases h80 : ((s[0]'(by omega)).toNat : Int) = 80
  rotate_left
  · exact rParse_B a b d s (by omega) h80
  by_cases h1 : s.size = 1
  · exact rParse_C a b d s h1 h80
  by_cases h1a : ((s[1]'(by omega)).toNat : Int) < 49
  · exact rParse_D a b d s (by omega) h80 (.inl h1a)
  by_cases h1b : ((s[1]'(by omega)).toNat : Int) > 54
  · exact rParse_D a b d s (by omega) h80 (.inr h1b)
  by_cases h2 : s.size = 2
  · exact rParse_E a b d s h2 h80 h1a h1b
  by_cases h35 : ((s[2]'(by omega)).toNat : Int) = 35
  · exact rParse_G a b d s (by omega) h80 h1a h1b (.inr h35) hsz
  cases hb : Q8 ((s[2]'(by omega)).toNat : Int) with
  | true => exact rParse_G a b d s (by omega) h80 h1a h1b (.inl hb) hsz
  | false => exact rParse_F a b d s (by omega) h80 h1a h1b h35 hb

end Go.Proofs.YtggamdlpiejbiaaGreat
