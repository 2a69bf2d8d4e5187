/- Walks and plain laws, a part of the proof of ImageCuts: every input that the law's guards let in, no condition beside. -/
import Derived.Test.YtggamdlpiejbiaaGreatM21
namespace Go.Proofs.YtggamdlpiejbiaaGreat
open Go.RowKit Go.Shelf

theorem ZH (a b d : Int) : Fn Tryz.prog 102 #[.agg #[.int .i64 a, .int .i64 b, .int .i64 d]] [] (fun v l => ∃ gl, v = .slice (some ⟨gl, 0, none⟩) 3 3 ∧ l = [QK gl [.int .i64 (QS a), .int .i64 (QT b), .int .i64 (QU d)] 3]) := by
 refine Ql (vs := [.agg #[.int .i64 a, .int .i64 b, .int .i64 d]]) Tryz.func102 rfl Tryz.ntmps102 rfl (Qb (Qa (Q2 rfl rfl rfl ?_)))
 intro g1
 refine Qd rfl rfl (WpL.nil (Qb (Qa (Qk (o2 := 0) rfl rfl rfl (Qn rfl rfl (by rfl) ?_)))))
 refine s_max2 rfl rfl rfl (s_min2 rfl rfl rfl (Qk (o2 := 1) rfl rfl rfl (Qn rfl rfl (by rfl) ?_)))
 refine s_max2 rfl rfl rfl (s_min2 rfl rfl rfl (Qk (o2 := 2) rfl rfl rfl (Qn rfl rfl (by rfl) ?_)))
 refine s_max2 rfl rfl rfl (s_min2 rfl rfl rfl ?_)
 refine s_bs3 rfl rfl rfl rfl rfl rfl rfl rfl ?_
 intro g2
 refine Qd rfl rfl (WpL.nil (Qh ?_))
 apply RetQ.mk
 ·exact (Res.one rfl rfl)
 ·exact ⟨_, rfl, rfl⟩
 ·exact Take.ent' (by repeat' constructor)

set_option maxHeartbeats 2000000 in
theorem rParse_A (a b d : Int) (s : ByteArray) (h : s.size = 0) : Fn Tryz.prog 56 #[.string s, .agg #[.int .i64 a, .int .i64 b, .int .i64 d]] [] (fun v l => ∃ K W H M n e, ((K, W, H, M), n, e) = XW (QS a) (QT b) (QU d) (QJ s) ∧ v = .tuple #[.agg #[.int .i64 K, .int .i64 W, .int .i64 H, .int .i64 M], .int .i64 n, .int .i64 e] ∧ l = []) := by
 have hnil : QJ s = [] := List.eq_nil_of_length_eq_zero (by rw [QZ]; exact h)
 refine Ql (vs := [.string s, .agg #[.int .i64 a, .int .i64 b, .int .i64 d]]) Tryz.func56 rfl Tryz.ntmps56 rfl (Qb (Qa (Q2 rfl rfl rfl ?_)))
 intro g1
 refine XH rfl ?_
 intro g2
 refine Qd rfl rfl (Qd rfl rfl (WpL.nil (Qb (Qb (Qa (Qc rfl rfl (Xy rfl Tryz.underlying9 rfl (XU rfl rfl rfl (Qc rfl rfl (Qv (dj := 19) rfl (decide_eq_false (by omega)) ?_))))))))))
 refine Qe rfl rfl rfl (by decide) (Qe rfl rfl rfl (by decide) (Qe rfl rfl rfl (by decide) (Qt rfl rfl rfl (WpL.nil (QW rfl (Wp.skip (Qb (Qb (Qa (Qc rfl rfl (Xy rfl Tryz.underlying9 rfl (XU rfl rfl rfl ?_))))))))))))
 refine Qc rfl rfl (Qv (dj := 28) rfl (decide_eq_false (by omega)) ?_)
 refine Qe rfl rfl rfl (by decide) (Qe rfl rfl rfl (by decide) (Qe rfl rfl rfl (by decide) (Qe rfl rfl rfl (by decide) (Xd rfl rfl rfl (Xd rfl rfl rfl (Xd rfl rfl rfl (Qe rfl rfl rfl (by decide) (Qt rfl rfl rfl (WpL.nil (QW rfl (Wp.skip (Qb ?_))))))))))))
 refine Qb (Qa (Qc rfl rfl (Xy rfl Tryz.underlying9 rfl (XU rfl rfl rfl (Qc rfl rfl (Qv (dj := 42) rfl (decide_eq_false (by omega)) ?_))))))
 refine Qe rfl rfl rfl (by decide) (Qe rfl rfl rfl (by decide) (Qe rfl rfl rfl (by decide) (Qt rfl rfl rfl (Qc rfl rfl (Qe rfl rfl rfl (by decide) (Qe rfl rfl rfl (by decide) (Qe rfl rfl rfl (by decide) (Qe rfl rfl rfl (by decide) (Qt rfl rfl rfl (WpL.nil (QW rfl (Wp.skip ?_))))))))))))
 refine Qb (Qb (Qa (Qc rfl rfl (Xy rfl Tryz.underlying9 rfl (Q8 rfl rfl rfl (WpL.nil (QY rfl (by omega) ?_)))))))
 refine Qb (Qa ?_)
 refine Xu rfl rfl ?_
 refine Qc rfl rfl (Xy rfl Tryz.underlying9 rfl ?_)
 refine QC rfl rfl rfl (by rfl) rfl ?_
 refine Qd rfl rfl (Qd rfl rfl (WpL.nil (Qh ?_)))
 apply RetQ.mk
 ·exact (QL rfl rfl (by rfl) rfl rfl)
 ·exact ⟨0, 0, 0, 0, _, _, by rw [hnil, hdP_s0, h]; rfl, rfl, rfl⟩
 ·exact Ent.nil _

set_option maxHeartbeats 2000000 in
theorem rParse_B (a b d : Int) (s : ByteArray) (h : 1 ≤ s.size) (h80 : ((s[0]'(by omega)).toNat : Int) ≠ 80) : Fn Tryz.prog 56 #[.string s, .agg #[.int .i64 a, .int .i64 b, .int .i64 d]] [] (fun v l => ∃ K W H M n e, ((K, W, H, M), n, e) = XW (QS a) (QT b) (QU d) (QJ s) ∧ v = .tuple #[.agg #[.int .i64 K, .int .i64 W, .int .i64 H, .int .i64 M], .int .i64 n, .int .i64 e] ∧ l = []) := by
 have hbs : QJ s = ((s[0]'(by omega)).toNat : Int) :: (QJ s).drop 1 := by have := XD (s := s) (k := 0) (by omega); simpa using this
 refine Ql (vs := [.string s, .agg #[.int .i64 a, .int .i64 b, .int .i64 d]]) Tryz.func56 rfl Tryz.ntmps56 rfl (Qb (Qa (Q2 rfl rfl rfl ?_)))
 intro g1
 refine XH rfl ?_
 intro g2
 refine Qd rfl rfl (Qd rfl rfl (WpL.nil (Qb (Qb (Qa (Qc rfl rfl (Xy rfl Tryz.underlying9 rfl (XU rfl rfl rfl (Qc rfl rfl (Qx (dj := 19) rfl (decide_eq_true (by omega)) ?_))))))))))
 refine Qf rfl rfl (Qc rfl rfl (Qf rfl rfl (Yo rfl Tryz.underlying9 rfl rfl (by omega) (by omega) ?_)))
 refine Qf rfl rfl (Xq rfl rfl rfl (Qr rfl rfl rfl (WpL.nil (QY rfl h80 (Qb (Qa ?_))))))
 refine Xu rfl rfl ?_
 refine QC rfl rfl rfl (by rfl) rfl ?_
 refine Qd rfl rfl (Qd rfl rfl (WpL.nil (Qh ?_)))
 apply RetQ.mk
 ·exact (QL rfl rfl (by rfl) rfl rfl)
 ·exact ⟨0, 0, 0, 0, _, _, by rw [hbs, hdP_0 _ _ _ h80], rfl, rfl⟩
 ·exact Ent.nil _

set_option maxHeartbeats 2000000 in
theorem rParse_C (a b d : Int) (s : ByteArray) (h : s.size = 1) (h80 : ((s[0]'(by omega)).toNat : Int) = 80) : Fn Tryz.prog 56 #[.string s, .agg #[.int .i64 a, .int .i64 b, .int .i64 d]] [] (fun v l => ∃ K W H M n e, ((K, W, H, M), n, e) = XW (QS a) (QT b) (QU d) (QJ s) ∧ v = .tuple #[.agg #[.int .i64 K, .int .i64 W, .int .i64 H, .int .i64 M], .int .i64 n, .int .i64 e] ∧ l = []) := by
 have hbs : QJ s = ((s[0]'(by omega)).toNat : Int) :: (QJ s).drop 1 := by have := XD (s := s) (k := 0) (by omega); simpa using this
 have hnil : (QJ s).drop 1 = [] := List.drop_of_length_le (by rw [QZ]; omega)
 refine Ql (vs := [.string s, .agg #[.int .i64 a, .int .i64 b, .int .i64 d]]) Tryz.func56 rfl Tryz.ntmps56 rfl (Qb (Qa (Q2 rfl rfl rfl ?_)))
 intro g1
 refine XH rfl ?_
 intro g2
 refine Qd rfl rfl (Qd rfl rfl (WpL.nil (Qb (Qb (Qa (Qc rfl rfl (Xy rfl Tryz.underlying9 rfl (XU rfl rfl rfl (Qc rfl rfl (Qx (dj := 19) rfl (decide_eq_true (by omega)) ?_))))))))))
 refine Qf rfl rfl (Qc rfl rfl (Qf rfl rfl (Yo rfl Tryz.underlying9 rfl rfl (by omega) (by omega) ?_)))
 refine Qf rfl rfl (Xq rfl rfl rfl (Qr rfl rfl rfl (WpL.nil (Qz rfl (fun h => h h80) ?_))))
 refine Wp.skip (Qb (Qb (Qa (Qc rfl rfl (Xy rfl Tryz.underlying9 rfl (XU rfl rfl rfl (Qc rfl rfl (Qv (dj := 28) rfl (decide_eq_false (by omega)) ?_))))))))
 refine Qe rfl rfl rfl (by decide) (Qe rfl rfl rfl (by decide) (Qe rfl rfl rfl (by decide) (Qe rfl rfl rfl (by decide) (Xd rfl rfl rfl (Xd rfl rfl rfl (Xd rfl rfl rfl (Qe rfl rfl rfl (by decide) (Qt rfl rfl rfl (WpL.nil (QW rfl (Wp.skip (Qb ?_))))))))))))
 refine Qb (Qa (Qc rfl rfl (Xy rfl Tryz.underlying9 rfl (XU rfl rfl rfl (Qc rfl rfl (Qv (dj := 42) rfl (decide_eq_false (by omega)) ?_))))))
 refine Qe rfl rfl rfl (by decide) (Qe rfl rfl rfl (by decide) (Qe rfl rfl rfl (by decide) (Qt rfl rfl rfl (Qc rfl rfl (Qe rfl rfl rfl (by decide) (Qe rfl rfl rfl (by decide) (Qe rfl rfl rfl (by decide) (Qe rfl rfl rfl (by decide) (Qt rfl rfl rfl (WpL.nil (QW rfl (Wp.skip ?_))))))))))))
 refine Qb (Qb (Qa (Qc rfl rfl (Xy rfl Tryz.underlying9 rfl (Q8 rfl rfl rfl (WpL.nil (QY rfl (by omega) ?_)))))))
 refine Qb (Qa ?_)
 refine Xu rfl rfl ?_
 refine Qc rfl rfl (Xy rfl Tryz.underlying9 rfl ?_)
 refine QC rfl rfl rfl (by rfl) rfl ?_
 refine Qd rfl rfl (Qd rfl rfl (WpL.nil (Qh ?_)))
 apply RetQ.mk
 ·exact (QL rfl rfl (by rfl) rfl rfl)
 ·exact ⟨0, 0, 0, 0, _, _, by rw [hbs, hnil, hdP_s1 _ _ _ h80, h]; rfl, rfl, rfl⟩
 ·exact Ent.nil _

set_option maxHeartbeats 2000000 in
theorem rParse_D (a b d : Int) (s : ByteArray) (h : 2 ≤ s.size) (h80 : ((s[0]'(by omega)).toNat : Int) = 80) (h1 : ((s[1]'(by omega)).toNat : Int) < 49 ∨ ((s[1]'(by omega)).toNat : Int) > 54) : Fn Tryz.prog 56 #[.string s, .agg #[.int .i64 a, .int .i64 b, .int .i64 d]] [] (fun v l => ∃ K W H M n e, ((K, W, H, M), n, e) = XW (QS a) (QT b) (QU d) (QJ s) ∧ v = .tuple #[.agg #[.int .i64 K, .int .i64 W, .int .i64 H, .int .i64 M], .int .i64 n, .int .i64 e] ∧ l = []) := by
 have hbs : QJ s = ((s[0]'(by omega)).toNat : Int) :: (QJ s).drop 1 := by have := XD (s := s) (k := 0) (by omega); simpa using this
 have hbs1 : (QJ s).drop 1 = ((s[1]'(by omega)).toNat : Int) :: (QJ s).drop 2 := XD (by omega)
 refine Ql (vs := [.string s, .agg #[.int .i64 a, .int .i64 b, .int .i64 d]]) Tryz.func56 rfl Tryz.ntmps56 rfl (Qb (Qa (Q2 rfl rfl rfl ?_)))
 intro g1
 refine XH rfl ?_
 intro g2
 refine Qd rfl rfl (Qd rfl rfl (WpL.nil (Qb (Qb (Qa (Qc rfl rfl (Xy rfl Tryz.underlying9 rfl (XU rfl rfl rfl (Qc rfl rfl (Qx (dj := 19) rfl (decide_eq_true (by omega)) ?_))))))))))
 refine Qf rfl rfl (Qc rfl rfl (Qf rfl rfl (Yo rfl Tryz.underlying9 rfl rfl (by omega) (by omega) ?_)))
 refine Qf rfl rfl (Xq rfl rfl rfl (Qr rfl rfl rfl (WpL.nil (Qz rfl (fun h => h h80) ?_))))
 refine Wp.skip (Qb (Qb (Qa (Qc rfl rfl (Xy rfl Tryz.underlying9 rfl (XU rfl rfl rfl (Qc rfl rfl (Qx (dj := 28) rfl (decide_eq_true (by omega)) ?_))))))))
 refine Qf rfl rfl (Qc rfl rfl (Qf rfl rfl (Yo rfl Tryz.underlying9 rfl rfl (by omega) (by omega) ?_)))
 refine Qf rfl rfl (Q8 rfl rfl rfl (Qf rfl rfl (Qc rfl rfl (QN rfl rfl rfl (fun hg3 => ?_) (fun hg3 => ?_)))))
 ·have hg3 := of_decide_eq_false hg3
  refine Qc rfl rfl (Qf rfl rfl (Yo rfl Tryz.underlying9 rfl rfl (by omega) (by omega) ?_))
  refine Qf rfl rfl (XU rfl rfl rfl (Qf rfl rfl (Qt rfl rfl rfl (Qr rfl rfl rfl (WpL.nil (QY rfl (h1.resolve_left hg3) (Qb (Qa ?_))))))))
  refine Xu rfl rfl ?_
  refine QC rfl rfl rfl (by rfl) rfl ?_
  refine Qd rfl rfl (Qd rfl rfl (WpL.nil (Qh ?_)))
  apply RetQ.mk
  ·exact (QL rfl rfl (by rfl) rfl rfl)
  ·exact ⟨0, 0, 0, 0, _, _, by rw [hbs, hbs1, hdP_1 _ _ _ h80 h1], rfl, rfl⟩
  ·exact Ent.nil _
 ·have hg3 := of_decide_eq_true hg3
  refine Qe rfl rfl rfl (by decide) (Qe rfl rfl rfl (by decide) (Qf rfl rfl (Qr rfl rfl rfl (Qr rfl rfl rfl (WpL.nil (Xn rfl (Qb (Qa ?_))))))))
  refine Xu rfl rfl ?_
  refine QC rfl rfl rfl (by rfl) rfl ?_
  refine Qd rfl rfl (Qd rfl rfl (WpL.nil (Qh ?_)))
  apply RetQ.mk
  ·exact (QL rfl rfl (by rfl) rfl rfl)
  ·exact ⟨0, 0, 0, 0, _, _, by rw [hbs, hbs1, hdP_1 _ _ _ h80 h1], rfl, rfl⟩
  ·exact Ent.nil _

set_option maxHeartbeats 2000000 in
theorem rParse_E (a b d : Int) (s : ByteArray) (h : s.size = 2) (h80 : ((s[0]'(by omega)).toNat : Int) = 80) (h1a : ¬ ((s[1]'(by omega)).toNat : Int) < 49) (h1b : ¬ ((s[1]'(by omega)).toNat : Int) > 54) : Fn Tryz.prog 56 #[.string s, .agg #[.int .i64 a, .int .i64 b, .int .i64 d]] [] (fun v l => ∃ K W H M n e, ((K, W, H, M), n, e) = XW (QS a) (QT b) (QU d) (QJ s) ∧ v = .tuple #[.agg #[.int .i64 K, .int .i64 W, .int .i64 H, .int .i64 M], .int .i64 n, .int .i64 e] ∧ l = []) := by
 have hbs : QJ s = ((s[0]'(by omega)).toNat : Int) :: (QJ s).drop 1 := by have := XD (s := s) (k := 0) (by omega); simpa using this
 have hbs1 : (QJ s).drop 1 = ((s[1]'(by omega)).toNat : Int) :: (QJ s).drop 2 := XD (by omega)
 have hnil : (QJ s).drop 2 = [] := List.drop_of_length_le (by rw [QZ]; omega)
 have h1c : 49 ≤ ((s[1]'(by omega)).toNat : Int) ∧ ((s[1]'(by omega)).toNat : Int) ≤ 54 := ⟨by omega, by omega⟩
 refine Ql (vs := [.string s, .agg #[.int .i64 a, .int .i64 b, .int .i64 d]]) Tryz.func56 rfl Tryz.ntmps56 rfl (Qb (Qa (Q2 rfl rfl rfl ?_)))
 intro g1
 refine XH rfl ?_
 intro g2
 refine Qd rfl rfl (Qd rfl rfl (WpL.nil (Qb (Qb (Qa (Qc rfl rfl (Xy rfl Tryz.underlying9 rfl (XU rfl rfl rfl (Qc rfl rfl (Qx (dj := 19) rfl (decide_eq_true (by omega)) ?_))))))))))
 refine Qf rfl rfl (Qc rfl rfl (Qf rfl rfl (Yo rfl Tryz.underlying9 rfl rfl (by omega) (by omega) ?_)))
 refine Qf rfl rfl (Xq rfl rfl rfl (Qr rfl rfl rfl (WpL.nil (Qz rfl (fun h => h h80) ?_))))
 refine Wp.skip (Qb (Qb (Qa (Qc rfl rfl (Xy rfl Tryz.underlying9 rfl (XU rfl rfl rfl (Qc rfl rfl (Qx (dj := 28) rfl (decide_eq_true (by omega)) ?_))))))))
 refine Qf rfl rfl (Qc rfl rfl (Qf rfl rfl (Yo rfl Tryz.underlying9 rfl rfl (by omega) (by omega) ?_)))
 refine Qf rfl rfl (Q8 rfl rfl rfl (Qf rfl rfl (Qc rfl rfl (Qv (dj := 32) rfl (decide_eq_false h1a) ?_))))
 refine Qf rfl rfl (Qc rfl rfl (Qf rfl rfl (Yo rfl Tryz.underlying9 rfl rfl (by omega) (by omega) ?_)))
 refine Qf rfl rfl (XU rfl rfl rfl (Qf rfl rfl (Qt rfl rfl rfl (Qr rfl rfl rfl (WpL.nil (Qz rfl h1b (Wp.skip (Qb (Qb (Qa (Qc rfl rfl (Xy rfl Tryz.underlying9 rfl ?_))))))))))))
 refine XU rfl rfl rfl (Qc rfl rfl (Qv (dj := 42) rfl (decide_eq_false (by omega)) ?_))
 refine Qe rfl rfl rfl (by decide) (Qe rfl rfl rfl (by decide) (Qe rfl rfl rfl (by decide) (Qt rfl rfl rfl (Qc rfl rfl (Qe rfl rfl rfl (by decide) (Qe rfl rfl rfl (by decide) (Qe rfl rfl rfl (by decide) (Qe rfl rfl rfl (by decide) (Qt rfl rfl rfl (WpL.nil (QW rfl (Wp.skip ?_))))))))))))
 refine Qb (Qb (Qa (Qc rfl rfl (Xy rfl Tryz.underlying9 rfl (Q8 rfl rfl rfl (WpL.nil (QY rfl (by omega) ?_)))))))
 refine Qb (Qa ?_)
 refine Xu rfl rfl ?_
 refine Qc rfl rfl (Xy rfl Tryz.underlying9 rfl ?_)
 refine QC rfl rfl rfl (by rfl) rfl ?_
 refine Qd rfl rfl (Qd rfl rfl (WpL.nil (Qh ?_)))
 apply RetQ.mk
 ·exact (QL rfl rfl (by rfl) rfl rfl)
 ·exact ⟨0, 0, 0, 0, _, _, by rw [hbs, hbs1, hnil, hdP_s2 _ _ _ h80 h1c, h]; rfl, rfl, rfl⟩
 ·exact Ent.nil _

set_option maxHeartbeats 2000000 in
theorem rParse_F (a b d : Int) (s : ByteArray) (h : 3 ≤ s.size) (h80 : ((s[0]'(by omega)).toNat : Int) = 80) (h1a : ¬ ((s[1]'(by omega)).toNat : Int) < 49) (h1b : ¬ ((s[1]'(by omega)).toNat : Int) > 54) (h2 : ((s[2]'(by omega)).toNat : Int) ≠ 35) (h2b : Xc ((s[2]'(by omega)).toNat : Int) = false) : Fn Tryz.prog 56 #[.string s, .agg #[.int .i64 a, .int .i64 b, .int .i64 d]] [] (fun v l => ∃ K W H M n e, ((K, W, H, M), n, e) = XW (QS a) (QT b) (QU d) (QJ s) ∧ v = .tuple #[.agg #[.int .i64 K, .int .i64 W, .int .i64 H, .int .i64 M], .int .i64 n, .int .i64 e] ∧ l = []) := by
 have hbs : QJ s = ((s[0]'(by omega)).toNat : Int) :: (QJ s).drop 1 := by have := XD (s := s) (k := 0) (by omega); simpa using this
 have hbs1 : (QJ s).drop 1 = ((s[1]'(by omega)).toNat : Int) :: (QJ s).drop 2 := XD (by omega)
 have hbs2 : (QJ s).drop 2 = ((s[2]'(by omega)).toNat : Int) :: (QJ s).drop 3 := XD (by omega)
 have h1c : 49 ≤ ((s[1]'(by omega)).toNat : Int) ∧ ((s[1]'(by omega)).toNat : Int) ≤ 54 := ⟨by omega, by omega⟩
 refine Ql (vs := [.string s, .agg #[.int .i64 a, .int .i64 b, .int .i64 d]]) Tryz.func56 rfl Tryz.ntmps56 rfl (Qb (Qa (Q2 rfl rfl rfl ?_)))
 intro g1
 refine XH rfl ?_
 intro g2
 refine Qd rfl rfl (Qd rfl rfl (WpL.nil (Qb (Qb (Qa (Qc rfl rfl (Xy rfl Tryz.underlying9 rfl (XU rfl rfl rfl (Qc rfl rfl (Qx (dj := 19) rfl (decide_eq_true (by omega)) ?_))))))))))
 refine Qf rfl rfl (Qc rfl rfl (Qf rfl rfl (Yo rfl Tryz.underlying9 rfl rfl (by omega) (by omega) ?_)))
 refine Qf rfl rfl (Xq rfl rfl rfl (Qr rfl rfl rfl (WpL.nil (Qz rfl (fun h => h h80) ?_))))
 refine Wp.skip (Qb (Qb (Qa (Qc rfl rfl (Xy rfl Tryz.underlying9 rfl (XU rfl rfl rfl (Qc rfl rfl (Qx (dj := 28) rfl (decide_eq_true (by omega)) ?_))))))))
 refine Qf rfl rfl (Qc rfl rfl (Qf rfl rfl (Yo rfl Tryz.underlying9 rfl rfl (by omega) (by omega) ?_)))
 refine Qf rfl rfl (Q8 rfl rfl rfl (Qf rfl rfl (Qc rfl rfl (Qv (dj := 32) rfl (decide_eq_false h1a) ?_))))
 refine Qf rfl rfl (Qc rfl rfl (Qf rfl rfl (Yo rfl Tryz.underlying9 rfl rfl (by omega) (by omega) ?_)))
 refine Qf rfl rfl (XU rfl rfl rfl (Qf rfl rfl (Qt rfl rfl rfl (Qr rfl rfl rfl (WpL.nil (Qz rfl h1b (Wp.skip (Qb (Qb (Qa (Qc rfl rfl (Xy rfl Tryz.underlying9 rfl ?_))))))))))))
 refine XU rfl rfl rfl (Qc rfl rfl (Qx (dj := 42) rfl (decide_eq_true (by omega)) ?_))
 refine Qf rfl rfl (Qc rfl rfl (Qf rfl rfl (Yo rfl Tryz.underlying9 rfl rfl (by omega) (by omega) ?_)))
 refine Qf rfl rfl (Xq rfl rfl rfl (Qr rfl rfl rfl (Qc rfl rfl (Qx (dj := 47) rfl (decide_eq_true h2) ?_))))
 refine Qf rfl rfl (Qc rfl rfl (Qf rfl rfl (Yo rfl Tryz.underlying9 rfl rfl (by omega) (by omega) ?_)))
 refine Qf rfl rfl (Qi rfl rfl (by repeat' constructor) (Yd _) ?_)
 rintro _ _ ⟨rfl, rfl⟩
 simp only [Qs]
 refine Qf rfl rfl (Zp rfl rfl (Qr rfl rfl rfl (WpL.nil (Wp.condBT rfl (by exact congrArg (! ·) h2b) ?_))))
 refine Qb (Qa ?_)
 refine Xu rfl rfl ?_
 refine QC rfl rfl rfl (by rfl) rfl ?_
 refine Qd rfl rfl (Qd rfl rfl (WpL.nil (Qh ?_)))
 apply RetQ.mk
 ·exact (QL rfl rfl (by rfl) rfl rfl)
 ·exact ⟨0, 0, 0, 0, _, _, by rw [hbs, hbs1, hbs2, hdP_2 _ _ _ h80 h1c ⟨h2b, h2⟩], rfl, rfl⟩
 ·exact Ent.nil _


structure PaX where
  (i at_ : Nat) (W H M : Int)
structure PbX where
  (k : Int) (at_ : Nat) (t : TS)
theorem lsel_lim (a b d : Int) (i : Nat) (h : i < 3) : [Value.int .i64 (QS a), .int .i64 (QT b), .int .i64 (QU d)][i]? = some (.int .i64 (Q6 (QS a) (QT b) (QU d) i)) := by
  obtain rfl | rfl | rfl : i = 0 ∨ i = 1 ∨ i = 2 := by omega
  all_goals rfl
theorem Y3 (a b d : Int) (i : Int) : 0 ≤ Q6 (QS a) (QT b) (QU d) i ∧ Q6 (QS a) (QT b) (QU d) i ≤ 1000000 := by
  have := lim_o a b d
  have h1 := this.a
  have h2 := this.b
  have h3 := this.c
  unfold Q6
  split
  · omega
  · split <;> omega
theorem Z3 {most : Int} {t : TS} {c : Int} {bs : List Int} {n : Int} {r : TS × Int × Int} (h : r = Xh most t (c :: bs) n) : r = if (QG most t c).2 = 0 then Xh most (QG most t c).1 bs (n + 1) else ((QG most t c).1, (QG most t c).2, n + 1) := by
  rw [h, Xh]
  by_cases h0 : (QG most t c).2 = 0
  · rw [if_neg (fun q => q h0), if_pos h0]
  · rw [if_pos h0, if_neg h0]

set_option maxHeartbeats 2000000 in
theorem rParse_G (a b d : Int) (s : ByteArray) (h : 3 ≤ s.size) (h80 : ((s[0]'(by omega)).toNat : Int) = 80) (h1a : ¬ ((s[1]'(by omega)).toNat : Int) < 49) (h1b : ¬ ((s[1]'(by omega)).toNat : Int) > 54) (h2 : Xc ((s[2]'(by omega)).toNat : Int) = true ∨ ((s[2]'(by omega)).toNat : Int) = 35) (hsz : s.size ≤ 1000000000000) : Fn Tryz.prog 56 #[.string s, .agg #[.int .i64 a, .int .i64 b, .int .i64 d]] [] (fun v l => ∃ K W H M n e, ((K, W, H, M), n, e) = XW (QS a) (QT b) (QU d) (QJ s) ∧ v = .tuple #[.agg #[.int .i64 K, .int .i64 W, .int .i64 H, .int .i64 M], .int .i64 n, .int .i64 e] ∧ l = []) := by
 have hbs : QJ s = ((s[0]'(by omega)).toNat : Int) :: (QJ s).drop 1 := by have := XD (s := s) (k := 0) (by omega); simpa using this
 have hbs1 : (QJ s).drop 1 = ((s[1]'(by omega)).toNat : Int) :: (QJ s).drop 2 := XD (by omega)
 have hbs2 : (QJ s).drop 2 = ((s[2]'(by omega)).toNat : Int) :: (QJ s).drop 3 := XD (by omega)
 have h1c : 49 ≤ ((s[1]'(by omega)).toNat : Int) ∧ ((s[1]'(by omega)).toNat : Int) ≤ 54 := ⟨by omega, by omega⟩
 refine Ql (vs := [.string s, .agg #[.int .i64 a, .int .i64 b, .int .i64 d]]) Tryz.func56 rfl Tryz.ntmps56 rfl (Qb (Qa (Q2 rfl rfl rfl ?_)))
 intro g1
 refine XH rfl ?_
 intro gO
 refine Qd rfl rfl (Qd rfl rfl (WpL.nil (Qb (Qb (Qa (Qc rfl rfl (Xy rfl Tryz.underlying9 rfl (XU rfl rfl rfl (Qc rfl rfl (Qx (dj := 19) rfl (decide_eq_true (by omega)) ?_))))))))))
 refine Qf rfl rfl (Qc rfl rfl (Qf rfl rfl (Yo rfl Tryz.underlying9 rfl rfl (by omega) (by omega) ?_)))
 refine Qf rfl rfl (Xq rfl rfl rfl (Qr rfl rfl rfl (WpL.nil (Qz rfl (fun h => h h80) ?_))))
 refine Wp.skip (Qb (Qb (Qa (Qc rfl rfl (Xy rfl Tryz.underlying9 rfl (XU rfl rfl rfl (Qc rfl rfl (Qx (dj := 28) rfl (decide_eq_true (by omega)) ?_))))))))
 refine Qf rfl rfl (Qc rfl rfl (Qf rfl rfl (Yo rfl Tryz.underlying9 rfl rfl (by omega) (by omega) ?_)))
 refine Qf rfl rfl (Q8 rfl rfl rfl (Qf rfl rfl (Qc rfl rfl (Qv (dj := 32) rfl (decide_eq_false h1a) ?_))))
 refine Qf rfl rfl (Qc rfl rfl (Qf rfl rfl (Yo rfl Tryz.underlying9 rfl rfl (by omega) (by omega) ?_)))
 refine Qf rfl rfl (XU rfl rfl rfl (Qf rfl rfl (Qt rfl rfl rfl (Qr rfl rfl rfl (WpL.nil (Qz rfl h1b (Wp.skip (Qb (Qb (Qa (Qc rfl rfl (Xy rfl Tryz.underlying9 rfl ?_))))))))))))
 refine XU rfl rfl rfl (Qc rfl rfl (Qx (dj := 42) rfl (decide_eq_true (by omega)) ?_))
 refine Qf rfl rfl (Qc rfl rfl (Qf rfl rfl (Yo rfl Tryz.underlying9 rfl rfl (by omega) (by omega) ?_)))
 refine Qf rfl rfl (Xq rfl rfl rfl (Qr rfl rfl rfl (Qc rfl rfl (QN rfl rfl rfl (fun hg5 => ?_) (fun hg5 => ?_)))))
 ·have hg5 := of_decide_eq_true hg5
  refine Qc rfl rfl (Qf rfl rfl (Yo rfl Tryz.underlying9 rfl rfl (by omega) (by omega) ?_))
  refine Qf rfl rfl (Qi rfl rfl (by repeat' constructor) (Yd _) ?_)
  rintro _ _ ⟨rfl, rfl⟩
  simp only [Qs]
  refine Qf rfl rfl (Zp rfl rfl (Qr rfl rfl rfl (WpL.nil (Wp.condBF rfl (by exact congrArg (! ·) (h2.resolve_right hg5)) ?_))))
  refine Wp.skip (Qb (Qb (Qa (Qc rfl rfl (Xy rfl Tryz.underlying9 rfl (Q8 rfl rfl rfl (WpL.nil (Qz rfl (by omega) ?_))))))))
  refine Wp.skip (Qb (Qa (Qc rfl rfl (Yo rfl Tryz.underlying9 rfl rfl (by omega) (by omega) ?_))))
  have hu1 := u8_lt (s[1]'(by omega))
  change WpL _ _ _ _ _ _ ((61, Value.int .u8 ((s[1]'(by omega)).toNat : Int)) :: _) _
  refine XY rfl Tryz.underlying5 rfl (Qo (by omega) (by omega)) ?_
  refine Yp rfl rfl rfl (Qo (by omega) (by omega)) ?_
  change WpL _ _ _ _ _ _ ((63, Value.int .i64 (((s[1]'(by omega)).toNat : Int) - 48)) :: _) _
  have hp0 := hdP_3 (QS a) (QT b) (QU d) (bs := (QJ s).drop 3) (lim_o a b d).a.1 h80 h1c h2
  rw [← hbs2, ← hbs1, ← hbs] at hp0
  have hK0 : 1 ≤ ((s[1]'(by omega)).toNat : Int) - 48 ∧ ((s[1]'(by omega)).toNat : Int) - 48 ≤ 6 := by omega
  generalize ((s[1]'(by omega)).toNat : Int) - 48 = K at hp0 hK0 ⊢
  have hpar : ∀ M, parI (QS a) (QT b) (QU d) K (QJ s) 0 2 0 0 M := fun M => by unfold parI; rw [if_neg (by omega)]; exact hp0
  refine Xu rfl rfl ?_
  refine XH rfl ?_
  intro gH
  refine QC rfl rfl rfl (by rfl) rfl ?_
  refine WpL.nil (Qb (Qa (Qd rfl rfl (WpL.nil (Qb (Qb (Qa (Qk (o2 := 0) rfl rfl rfl (Qn rfl rfl (by rfl) ?_)))))))))
  refine Qi rfl rfl (by repeat' constructor) (VB _) ?_
  rintro _ _ ⟨rfl, rfl⟩
  simp only [Qs]
  refine WpL.nil (Qj rfl (fun h4 => ?_) (fun h4 => ?_))
  ·refine Qb (Qa (Qd rfl rfl (WpL.nil (Qa (Qk (o2 := 3) rfl rfl rfl (QV rfl rfl rfl (WpL.nil (Qb (Qa ?_)))))))))
   refine Qw (vs := [_, _, _]) rfl rfl rfl (by rfl) ?_
   refine Qi rfl rfl (by repeat' constructor) (ZH _ _ _) ?_
   rintro _ _ ⟨gl, rfl, rfl⟩
   simp only [Qs]
   refine Qd rfl rfl (WpL.nil (Qb (Qa (Qd rfl rfl (WpL.nil (Qb (Qb (Qa (Qd rfl rfl (WpL.nil (Wp.block ?_)))))))))))
   refine Wp.loopD (σ := PaX) (fun x => x.at_ ≤ s.size ∧ x.i ≤ 3 ∧ (X3 K → x.i ≤ 2 ∧ x.M = 1) ∧ parI (QS a) (QT b) (QU d) K (QJ s) x.i x.at_ x.W x.H x.M) [5, 6, 10, 11, 12, 13, 14, 15, 71, 72, 73, 74, 75, 76, 77, 78, 79, 80, 81, 82, 83, 84, 85, 86, 87, 88, 89, 90, 91, 92, 93, 94, 95, 96, 97, 98, 99, 100, 101, 102, 103, 104, 105, 106, 107, 108, 109, 110, 111, 112, 113, 114, 115, 116, 117, 118, 119, 120, 121, 122, 123, 124, 125, 126, 127, 128, 129] (fun x => [(11, .int .i64 (x.i : Int)), (10, .int .i64 (x.at_ : Int))]) (fun x => [QK gH [.int .i64 K, .int .i64 x.W, .int .i64 x.H, .int .i64 x.M] 113, QK gl [.int .i64 (QS a), .int .i64 (QT b), .int .i64 (QU d)] 3, QK gO [.int .i64 0, .int .i64 0, .int .i64 0, .int .i64 0] 113]) (fun x => 3 - x.i) ⟨0, 2, 0, 0, (if X3 K then 1 else 0)⟩ ?_ (by repeat (first | exact FrLe.nil | refine FrLe.cons rfl ?_)) ?_ ?_
   ·exact ⟨by simp only; omega, by simp, fun hb => ⟨by simp, by simp only; rw [if_pos hb]⟩, hpar _⟩
   ·(rw [show (if X3 K then (1 : Int) else 0) = 1 from if_pos h4]; exact Take.ent' (by repeat' constructor))
   ·rintro ⟨i, at_, W, H, M⟩ ⟨hat, hi3, hbk, hpi⟩
    dsimp only at hat hi3 hbk hpi ⊢
    refine Qb (Qb (Qa (Qc rfl rfl (Qc rfl rfl (Q8 rfl rfl rfl (WpL.nil (Qj rfl (fun h6 => ?_) (fun h6 => ?_))))))))
    ·have hi : i < 3 := by omega
     refine Wp.skip (Qb (Wp.block ?_))
     refine Qb (Qa (Qc rfl rfl (Qc rfl rfl (Xg i rfl rfl rfl (RdsL.blk (o := 0) (xs := [.int .i64 (QS a), .int .i64 (QT b), .int .i64 (QU d)]) rfl) (by exact Take.ent' (by repeat' constructor)) rfl (by omega) (by simp only [List.length_cons, List.length_nil]; omega) ?_))))
     refine Xk rfl rfl (RdsL.blk (o := 0) (xs := [.int .i64 (QS a), .int .i64 (QT b), .int .i64 (QU d)]) rfl) (by exact Take.ent' (by repeat' constructor)) (lsel_lim a b d i hi) ?_
     refine Qi rfl rfl (by repeat' constructor) (Z6 _) ?_
     rintro _ _ ⟨rfl, rfl⟩
     simp only [Qs]
     refine XH rfl ?_
     intro gN
     refine QC rfl rfl rfl (by rfl) rfl ?_
     refine WpL.nil (Qb (Qa (Qd rfl rfl (WpL.nil (Qb (Wp.block ?_))))))
     refine Wp.loopD (σ := PbX) (fun y => at_ ≤ y.at_ ∧ y.at_ ≤ s.size ∧ (y.k = 0 → YI (Q6 (QS a) (QT b) (QU d) i) y.t) ∧ Xh (Q6 (QS a) (QT b) (QU d) i) X5 ((QJ s).drop at_) at_ = (if y.k = 0 then Xh (Q6 (QS a) (QT b) (QU d) i) y.t ((QJ s).drop y.at_) y.at_ else (y.t, y.k, (y.at_ : Int)))) [10, 13, 14, 15, 81, 82, 83, 84, 85, 86, 87, 88, 89, 90, 91, 92, 93, 94, 95, 96, 97, 98, 99, 100] (fun y => [(13, .int .i64 y.k), (10, .int .i64 (y.at_ : Int))]) (fun y => [QK gN [.int .i64 y.t.ph, .int .i64 y.t.n, .int .i64 (Q6 (QS a) (QT b) (QU d) i), .int .i64 y.t.e] 170, QK gH [.int .i64 K, .int .i64 W, .int .i64 H, .int .i64 M] 113, QK gl [.int .i64 (QS a), .int .i64 (QT b), .int .i64 (QU d)] 3, QK gO [.int .i64 0, .int .i64 0, .int .i64 0, .int .i64 0] 113]) (fun y => s.size - y.at_) ⟨0, at_, X5⟩ ?_ (by repeat (first | exact FrLe.nil | refine FrLe.cons rfl ?_)) ?_ ?_
     ·exact ⟨Nat.le_refl _, hat, fun _ => (show YI _ X5 by unfold YI X5; dsimp only; have := (Y3 a b d i).1; omega), (if_pos rfl).symm⟩
     ·exact Ent.refl _
     ·rintro ⟨k, at2, t⟩ ⟨ha2, hat2, htk, hnr⟩
      dsimp only at ha2 hat2 htk hnr ⊢
      refine Qb (Qb (Qa (Qc rfl rfl (QH rfl rfl rfl (Qc rfl rfl (QN rfl rfl rfl (fun hg6 => ?_) (fun hg6 => ?_)))))))
      ·have hg6 := of_decide_eq_true hg6
       refine Qc rfl rfl (Qf rfl rfl (Qc rfl rfl (Qf rfl rfl (Xy rfl Tryz.underlying9 rfl (Qf rfl rfl (Q8 rfl rfl rfl (Qr rfl rfl rfl (WpL.nil (Qj rfl (fun h8 => ?_) (fun h8 => ?_))))))))))
       ·have hlt : at2 < s.size := by omega
        obtain ⟨cc, hcc⟩ : ∃ cc : Int, cc = ((s[at2]'hlt).toNat : Int) := ⟨_, rfl⟩
        obtain rfl : k = 0 := by assumption
        have htk2 := htk rfl
        rw [if_pos rfl] at hnr
        have hdr := XD hlt
        rw [← hcc] at hdr
        rw [hdr] at hnr
        have hst := Z3 hnr
        refine Wp.skip (Wp.block ?_)
        refine Qb ?_
        apply YE (fB := []) mixed 8 [(8, true)] rfl rfl (by kernel_rfl)
        apply YZ [⟨0, 90, _, [], false⟩, ⟨1, 91, _, [], false⟩, ⟨2, 92, _, [], false⟩, ⟨3, 93, _, [1, 2], false⟩, ⟨4, 94, _, [0, 3], false⟩, ⟨5, 89, _, [4], false⟩, ⟨6, 95, _, [5], false⟩, ⟨7, 96, _, [5], true⟩] [] [0, 1, 2, 3, 4, 5, 6] [15, 96] (.inl ⟨_, .nil⟩) rfl rfl rfl (by kernel_rfl) rfl rfl rfl rfl
        ·refine AllF.cons rfl rfl rfl rfl ?_ ?_
         ·refine Qw (vs := [_, _, _, _]) rfl rfl rfl (by rfl) ?_
          exact Qm rfl
         refine AllF.cons rfl rfl rfl rfl ?_ ?_
         ·exact Qc rfl rfl (Qm rfl)
         refine AllF.cons rfl rfl rfl rfl ?_ ?_
         ·exact Qc rfl rfl (Qm rfl)
         refine AllF.cons rfl rfl rfl rfl ?_ ?_
         ·refine Yo rfl Tryz.underlying9 rfl rfl (by omega) (by omega) ?_
          change WpL _ _ _ _ _ _ ((93, Value.int .u8 ((s[at2]'hlt).toNat : Int)) :: _) _
          rw [← hcc]
          exact Qm rfl
         refine AllF.cons rfl rfl rfl rfl ?_ ?_
         ·refine Qi rfl rfl (by repeat' constructor) (Z7 t.ph t.n _ t.e cc (by rw [hcc]; omega) (by rw [hcc]; exact u8_lt _) htk2.2.2.1 (Y3 a b d i).1 (Y3 a b d i).2 ⟨htk2.1, by have := htk2.2.1; omega⟩) ?_
          rintro _ _ ⟨rfl, rfl⟩
          simp only [Qs]
          exact WpL.nil ⟨rfl, rfl, rfl, by exact Ent.refl _⟩
         refine AllF.cons rfl rfl rfl rfl ?_ ?_
         ·exact Qc rfl rfl (Qm rfl)
         refine AllF.cons rfl rfl rfl rfl ?_ ?_
         ·exact QB rfl rfl rfl (Qm rfl)
         refine QD rfl rfl rfl rfl ?_ ?_
         ·exact QB rfl rfl rfl (Qm rfl)
         exact AllF.nil
        ·intro gS
         refine QC rfl rfl rfl (by rfl) rfl ?_
         refine WpL.nil ⟨rfl, rfl, ?_⟩
         apply GoR.nil [⟨10, 15, _, [0, 1, 2, 3, 4, 5, 6, 7, 8, 9], false⟩] (.inl ⟨_, .nil⟩) rfl rfl
         ·refine AllF.cons rfl rfl rfl rfl ?_ ?_
          ·exact Qd rfl rfl (Qm rfl)
          exact AllF.nil
         ·refine Qb (Qa ?_)
          refine Qw (vs := [_, _, _, _]) rfl rfl rfl (by rfl) ?_
          refine QC rfl rfl rfl (by rfl) rfl ?_
          refine WpL.nil (Qb (Qa (Qc rfl rfl (Qd rfl rfl (WpL.nil (Qa (Qc rfl rfl (QA rfl rfl rfl (Qo (by omega) (by omega)) ?_))))))))
          refine Qd rfl rfl (WpL.nil (Qq (Q := fun _ _ _ _ => False) (⟨(QG (Q6 (QS a) (QT b) (QU d) i) t cc).2, at2 + 1, (QG (Q6 (QS a) (QT b) (QU d) i) t cc).1⟩ : PbX) ?_ ?_ (by ((repeat (first | exact Top.refl | refine Top.push rfl ?_)); done)) (by repeat (first | exact FrLe.nil | refine FrLe.cons rfl ?_)) ?_))
          ·exact ⟨by simp only; omega, by simp only; omega, fun q => by rcases YS (c := cc) htk2 with z | z | z; exact z.2; exact absurd q (by simp only; omega); exact absurd q (by simp only; omega), hst⟩
          ·simp only; omega
          ·exact Take.ent' (by repeat' constructor)
       ·refine QP (Qb (Qb (Qa (Qc rfl rfl (QH rfl rfl rfl (WpL.nil (Qj rfl (fun h9 => ?_) (fun h9 => ?_))))))))
        ·have hr : Xh (Q6 (QS a) (QT b) (QU d) i) X5 ((QJ s).drop at_) at_ = (t, k, (at2 : Int)) := by
          by_cases hk0 : k = 0
          ·rw [hnr, if_pos hk0, show (QJ s).drop at2 = [] from List.drop_of_length_le (by rw [QZ]; omega), hk0]; rfl
          ·rw [hnr, if_neg hk0]
         have hps := XS hpi hi (fun hb => ⟨by omega, (hbk hb).2⟩) hr
         refine Qb (Qa ?_)
         refine Xu rfl rfl ?_
         refine Qc rfl rfl ?_
         refine QC rfl rfl rfl (by rfl) rfl ?_
         refine Qd rfl rfl (Qd rfl rfl (WpL.nil (Qh ?_)))
         apply RetQ.mk
         ·exact (QL rfl rfl (by rfl) rfl rfl)
         ·exact ⟨0, 0, 0, 0, _, 6, by rw [hps.1 h9, QZ, show s.size = at2 by omega], rfl, rfl⟩
         ·exact Ent.nil _
        ·have hr : Xh (Q6 (QS a) (QT b) (QU d) i) X5 ((QJ s).drop at_) at_ = (t, k, (at2 : Int)) := by
          by_cases hk0 : k = 0
          ·rw [hnr, if_pos hk0, show (QJ s).drop at2 = [] from List.drop_of_length_le (by rw [QZ]; omega), hk0]; rfl
          ·rw [hnr, if_neg hk0]
         have hps := XS hpi hi (fun hb => ⟨by omega, (hbk hb).2⟩) hr
         refine Wp.skip (Qb (Qb (Qa (Qc rfl rfl (QH rfl rfl rfl (WpL.nil (Qj rfl (fun h10 => ?_) (fun h10 => ?_))))))))
         ·refine Qb ?_
          apply Xe (fB := [QK gN [.int .i64 t.ph, .int .i64 t.n, .int .i64 (Q6 (QS a) (QT b) (QU d) i), .int .i64 t.e] 170]) mixed [(4, false)] (by kernel_rfl)
          apply Q7 [⟨0, 107, _, [], false⟩, ⟨1, 108, _, [], true⟩, ⟨2, 109, _, [], true⟩, ⟨3, 110, _, [2], true⟩] [] [0] [5, 6, 108, 109, 110] (.inl ⟨_, by repeat' constructor⟩) rfl rfl rfl (by kernel_rfl) rfl rfl rfl
          ·refine AllF.cons rfl rfl rfl rfl ?_ ?_
           ·refine Xu rfl rfl ?_
            exact Qm rfl
           refine QD rfl rfl rfl rfl ?_ ?_
           ·exact Qc rfl rfl (Qm rfl)
           refine QD rfl rfl rfl rfl ?_ ?_
           ·exact Qk (o2 := 3) rfl rfl rfl (Qm rfl)
           refine QD rfl rfl rfl rfl ?_ ?_
           ·refine Qn rfl rfl (by rfl) ?_
            exact Qm rfl
           exact AllF.nil
          ·refine QC rfl rfl rfl (by rfl) rfl ?_
           refine WpL.nil ⟨rfl, rfl, ?_⟩
           apply GoR.nil [⟨5, 5, _, [0, 1, 4], false⟩, ⟨6, 6, _, [0, 1, 2, 3, 4, 5], false⟩] (.inl ⟨_, by repeat' constructor⟩) rfl rfl
           ·refine AllF.cons rfl rfl rfl rfl ?_ ?_
            ·exact Qd rfl rfl (Qm rfl)
            refine AllF.cons rfl rfl rfl rfl ?_ ?_
            ·exact Qd rfl rfl (Qm rfl)
            exact AllF.nil
           ·refine Qh ?_
            apply RetQ.mk
            ·exact (QL rfl rfl (by rfl) rfl rfl)
            ·exact ⟨0, 0, 0, 0, _, _, by rw [hps.2.1 h10], rfl, rfl⟩
            ·exact Ent.nil _
         ·refine Wp.skip (Qb (Qb (Qa (Qk (o2 := 1) rfl rfl rfl (Qn rfl rfl (by rfl) ?_)))))
          refine QH rfl rfl rfl (WpL.nil (Qj rfl (fun h11 => ?_) (fun h11 => ?_)))
          ·refine Qb (Qa ?_)
           refine Xu rfl rfl ?_
           refine Qc rfl rfl ?_
           refine QC rfl rfl rfl (by rfl) rfl ?_
           refine Qd rfl rfl (Qd rfl rfl (WpL.nil (Qh ?_)))
           apply RetQ.mk
           ·exact (QL rfl rfl (by rfl) rfl rfl)
           ·exact ⟨0, 0, 0, 0, _, 4, by rw [hps.2.2.1 h9 h10 h11], rfl, rfl⟩
           ·exact Ent.nil _
          ·have hpn := hps.2.2.2 h9 h10 h11
           rw [Int.toNat_natCast] at hpn
           refine Wp.skip (Qb (Qa (Qc rfl rfl (WpL.nil (Wp.block ?_)))))
           refine Qb (Qa (QH rfl rfl rfl (Qd rfl rfl (WpL.nil (Qj rfl (fun h12 => ?_) (fun h12 => ?_))))))
           ·refine Qa (Qk (o2 := 1) rfl rfl rfl (Qn rfl rfl (by rfl) ?_))
            refine Qk (o2 := 1) rfl rfl rfl (QV rfl rfl rfl (WpL.nil (Qa (Qc rfl rfl (QA rfl rfl rfl (Qo (by omega) (by omega)) ?_)))))
            refine Qd rfl rfl (WpL.nil (Qq (⟨i + 1, at2, t.n, H, M⟩ : PaX) ?_ ?_ (by ((repeat (first | exact Top.refl | refine Top.push rfl ?_)); done)) (by repeat (first | exact FrLe.nil | refine FrLe.cons rfl ?_)) ?_))
            ·have e : i = 0 := by omega
             subst e
             exact ⟨hat2, by simp only; omega, fun hb => ⟨by simp only; omega, by exact (hbk hb).2⟩, hpn⟩
            ·simp only; omega
            ·exact Take.ent' (by repeat' constructor)
           ·refine Qb (Qa (QH rfl rfl rfl (Qd rfl rfl (WpL.nil (Qj rfl (fun h13 => ?_) (fun h13 => ?_))))))
            ·refine Qa (Qk (o2 := 1) rfl rfl rfl (Qn rfl rfl (by rfl) ?_))
             refine Qk (o2 := 2) rfl rfl rfl (QV rfl rfl rfl (WpL.nil (Qa (Qc rfl rfl (QA rfl rfl rfl (Qo (by omega) (by omega)) ?_)))))
             refine Qd rfl rfl (WpL.nil (Qq (⟨i + 1, at2, W, t.n, M⟩ : PaX) ?_ ?_ (by ((repeat (first | exact Top.refl | refine Top.push rfl ?_)); done)) (by repeat (first | exact FrLe.nil | refine FrLe.cons rfl ?_)) ?_))
             ·have e : i = 1 := by omega
              subst e
              exact ⟨hat2, by simp only; omega, fun hb => ⟨by simp only; omega, by exact (hbk hb).2⟩, hpn⟩
             ·simp only; omega
             ·exact Take.ent' (by repeat' constructor)
            ·refine Qa (Qk (o2 := 1) rfl rfl rfl (Qn rfl rfl (by rfl) ?_))
             refine Qk (o2 := 3) rfl rfl rfl (QV rfl rfl rfl (WpL.nil (Qa (Qc rfl rfl (QA rfl rfl rfl (Qo (by omega) (by omega)) ?_)))))
             refine Qd rfl rfl (WpL.nil (Qq (⟨i + 1, at2, W, H, t.n⟩ : PaX) ?_ ?_ (by ((repeat (first | exact Top.refl | refine Top.push rfl ?_)); done)) (by repeat (first | exact FrLe.nil | refine FrLe.cons rfl ?_)) ?_))
             ·have e : i = 2 := by omega
              subst e
              exact ⟨hat2, by simp only; omega, fun hb => ⟨by simp only; omega, by (exfalso; have := (hbk hb).1; omega)⟩, hpn⟩
             ·simp only; omega
             ·exact Take.ent' (by repeat' constructor)
      ·have hg6 := of_decide_eq_false hg6
       refine Qe rfl rfl rfl (by decide) (Qe rfl rfl rfl (by decide) (Qe rfl rfl rfl (by decide) (Qt rfl rfl rfl (WpL.nil (QW rfl (QP (Qb (Qb (Qa (Qc rfl rfl (QH rfl rfl rfl (WpL.nil ?_))))))))))))
       refine Qj rfl (fun h9 => ?_) (fun h9 => ?_)
       ·have hr : Xh (Q6 (QS a) (QT b) (QU d) i) X5 ((QJ s).drop at_) at_ = (t, k, (at2 : Int)) := by
         by_cases hk0 : k = 0
         ·rw [hnr, if_pos hk0, show (QJ s).drop at2 = [] from List.drop_of_length_le (by rw [QZ]; omega), hk0]; rfl
         ·rw [hnr, if_neg hk0]
        have hps := XS hpi hi (fun hb => ⟨by omega, (hbk hb).2⟩) hr
        refine Qb (Qa ?_)
        refine Xu rfl rfl ?_
        refine Qc rfl rfl ?_
        refine QC rfl rfl rfl (by rfl) rfl ?_
        refine Qd rfl rfl (Qd rfl rfl (WpL.nil (Qh ?_)))
        apply RetQ.mk
        ·exact (QL rfl rfl (by rfl) rfl rfl)
        ·exact ⟨0, 0, 0, 0, _, 6, by rw [hps.1 h9, QZ, show s.size = at2 by omega], rfl, rfl⟩
        ·exact Ent.nil _
       ·have hr : Xh (Q6 (QS a) (QT b) (QU d) i) X5 ((QJ s).drop at_) at_ = (t, k, (at2 : Int)) := by
         by_cases hk0 : k = 0
         ·rw [hnr, if_pos hk0, show (QJ s).drop at2 = [] from List.drop_of_length_le (by rw [QZ]; omega), hk0]; rfl
         ·rw [hnr, if_neg hk0]
        have hps := XS hpi hi (fun hb => ⟨by omega, (hbk hb).2⟩) hr
        refine Wp.skip (Qb (Qb (Qa (Qc rfl rfl (QH rfl rfl rfl (WpL.nil (Qj rfl (fun h10 => ?_) (fun h10 => ?_))))))))
        ·refine Qb ?_
         apply Xe (fB := [QK gN [.int .i64 t.ph, .int .i64 t.n, .int .i64 (Q6 (QS a) (QT b) (QU d) i), .int .i64 t.e] 170]) mixed [(4, false)] (by kernel_rfl)
         apply Q7 [⟨0, 107, _, [], false⟩, ⟨1, 108, _, [], true⟩, ⟨2, 109, _, [], true⟩, ⟨3, 110, _, [2], true⟩] [] [0] [5, 6, 108, 109, 110] (.inl ⟨_, by repeat' constructor⟩) rfl rfl rfl (by kernel_rfl) rfl rfl rfl
         ·refine AllF.cons rfl rfl rfl rfl ?_ ?_
          ·refine Xu rfl rfl ?_
           exact Qm rfl
          refine QD rfl rfl rfl rfl ?_ ?_
          ·exact Qc rfl rfl (Qm rfl)
          refine QD rfl rfl rfl rfl ?_ ?_
          ·exact Qk (o2 := 3) rfl rfl rfl (Qm rfl)
          refine QD rfl rfl rfl rfl ?_ ?_
          ·refine Qn rfl rfl (by rfl) ?_
           exact Qm rfl
          exact AllF.nil
         ·refine QC rfl rfl rfl (by rfl) rfl ?_
          refine WpL.nil ⟨rfl, rfl, ?_⟩
          apply GoR.nil [⟨5, 5, _, [0, 1, 4], false⟩, ⟨6, 6, _, [0, 1, 2, 3, 4, 5], false⟩] (.inl ⟨_, by repeat' constructor⟩) rfl rfl
          ·refine AllF.cons rfl rfl rfl rfl ?_ ?_
           ·exact Qd rfl rfl (Qm rfl)
           refine AllF.cons rfl rfl rfl rfl ?_ ?_
           ·exact Qd rfl rfl (Qm rfl)
           exact AllF.nil
          ·refine Qh ?_
           apply RetQ.mk
           ·exact (QL rfl rfl (by rfl) rfl rfl)
           ·exact ⟨0, 0, 0, 0, _, _, by rw [hps.2.1 h10], rfl, rfl⟩
           ·exact Ent.nil _
        ·refine Wp.skip (Qb (Qb (Qa (Qk (o2 := 1) rfl rfl rfl (Qn rfl rfl (by rfl) ?_)))))
         refine QH rfl rfl rfl (WpL.nil (Qj rfl (fun h11 => ?_) (fun h11 => ?_)))
         ·refine Qb (Qa ?_)
          refine Xu rfl rfl ?_
          refine Qc rfl rfl ?_
          refine QC rfl rfl rfl (by rfl) rfl ?_
          refine Qd rfl rfl (Qd rfl rfl (WpL.nil (Qh ?_)))
          apply RetQ.mk
          ·exact (QL rfl rfl (by rfl) rfl rfl)
          ·exact ⟨0, 0, 0, 0, _, 4, by rw [hps.2.2.1 h9 h10 h11], rfl, rfl⟩
          ·exact Ent.nil _
         ·have hpn := hps.2.2.2 h9 h10 h11
          rw [Int.toNat_natCast] at hpn
          refine Wp.skip (Qb (Qa (Qc rfl rfl (WpL.nil (Wp.block ?_)))))
          refine Qb (Qa (QH rfl rfl rfl (Qd rfl rfl (WpL.nil (Qj rfl (fun h12 => ?_) (fun h12 => ?_))))))
          ·refine Qa (Qk (o2 := 1) rfl rfl rfl (Qn rfl rfl (by rfl) ?_))
           refine Qk (o2 := 1) rfl rfl rfl (QV rfl rfl rfl (WpL.nil (Qa (Qc rfl rfl (QA rfl rfl rfl (Qo (by omega) (by omega)) ?_)))))
           refine Qd rfl rfl (WpL.nil (Qq (⟨i + 1, at2, t.n, H, M⟩ : PaX) ?_ ?_ (by ((repeat (first | exact Top.refl | refine Top.push rfl ?_)); done)) (by repeat (first | exact FrLe.nil | refine FrLe.cons rfl ?_)) ?_))
           ·have e : i = 0 := by omega
            subst e
            exact ⟨hat2, by simp only; omega, fun hb => ⟨by simp only; omega, by exact (hbk hb).2⟩, hpn⟩
           ·simp only; omega
           ·exact Take.ent' (by repeat' constructor)
          ·refine Qb (Qa (QH rfl rfl rfl (Qd rfl rfl (WpL.nil (Qj rfl (fun h13 => ?_) (fun h13 => ?_))))))
           ·refine Qa (Qk (o2 := 1) rfl rfl rfl (Qn rfl rfl (by rfl) ?_))
            refine Qk (o2 := 2) rfl rfl rfl (QV rfl rfl rfl (WpL.nil (Qa (Qc rfl rfl (QA rfl rfl rfl (Qo (by omega) (by omega)) ?_)))))
            refine Qd rfl rfl (WpL.nil (Qq (⟨i + 1, at2, W, t.n, M⟩ : PaX) ?_ ?_ (by ((repeat (first | exact Top.refl | refine Top.push rfl ?_)); done)) (by repeat (first | exact FrLe.nil | refine FrLe.cons rfl ?_)) ?_))
            ·have e : i = 1 := by omega
             subst e
             exact ⟨hat2, by simp only; omega, fun hb => ⟨by simp only; omega, by exact (hbk hb).2⟩, hpn⟩
            ·simp only; omega
            ·exact Take.ent' (by repeat' constructor)
           ·refine Qa (Qk (o2 := 1) rfl rfl rfl (Qn rfl rfl (by rfl) ?_))
            refine Qk (o2 := 3) rfl rfl rfl (QV rfl rfl rfl (WpL.nil (Qa (Qc rfl rfl (QA rfl rfl rfl (Qo (by omega) (by omega)) ?_)))))
            refine Qd rfl rfl (WpL.nil (Qq (⟨i + 1, at2, W, H, t.n⟩ : PaX) ?_ ?_ (by ((repeat (first | exact Top.refl | refine Top.push rfl ?_)); done)) (by repeat (first | exact FrLe.nil | refine FrLe.cons rfl ?_)) ?_))
            ·have e : i = 2 := by omega
             subst e
             exact ⟨hat2, by simp only; omega, fun hb => ⟨by simp only; omega, by (exfalso; have := (hbk hb).1; omega)⟩, hpn⟩
            ·simp only; omega
            ·exact Take.ent' (by repeat' constructor)
    ·refine QP (Qb (Qa ?_))
     refine Qw (vs := [_, _, _, _]) rfl rfl rfl (by rfl) ?_
     refine Qc rfl rfl ?_
     refine QC rfl rfl rfl (by rfl) rfl ?_
     refine Qd rfl rfl (Qd rfl rfl (WpL.nil (Qh ?_)))
     apply RetQ.mk
     ·exact (QL rfl rfl (by rfl) rfl rfl)
     ·exact ⟨K, W, H, M, _, 0, by unfold parI at hpi; rw [hpi, if_pos (by exact .inr ⟨by have := (hbk h4).1; omega, h4⟩)], rfl, rfl⟩
     ·exact Ent.nil _
  ·refine Wp.skip (Qb (Qa ?_))
   refine Qw (vs := [_, _, _]) rfl rfl rfl (by rfl) ?_
   refine Qi rfl rfl (by repeat' constructor) (ZH _ _ _) ?_
   rintro _ _ ⟨gl, rfl, rfl⟩
   simp only [Qs]
   refine Qd rfl rfl (WpL.nil (Qb (Qa (Qd rfl rfl (WpL.nil (Qb (Qb (Qa (Qd rfl rfl (WpL.nil (Wp.block ?_)))))))))))
   refine Wp.loopD (σ := PaX) (fun x => x.at_ ≤ s.size ∧ x.i ≤ 3 ∧ (X3 K → x.i ≤ 2 ∧ x.M = 1) ∧ parI (QS a) (QT b) (QU d) K (QJ s) x.i x.at_ x.W x.H x.M) [5, 6, 10, 11, 12, 13, 14, 15, 71, 72, 73, 74, 75, 76, 77, 78, 79, 80, 81, 82, 83, 84, 85, 86, 87, 88, 89, 90, 91, 92, 93, 94, 95, 96, 97, 98, 99, 100, 101, 102, 103, 104, 105, 106, 107, 108, 109, 110, 111, 112, 113, 114, 115, 116, 117, 118, 119, 120, 121, 122, 123, 124, 125, 126, 127, 128, 129] (fun x => [(11, .int .i64 (x.i : Int)), (10, .int .i64 (x.at_ : Int))]) (fun x => [QK gH [.int .i64 K, .int .i64 x.W, .int .i64 x.H, .int .i64 x.M] 113, QK gl [.int .i64 (QS a), .int .i64 (QT b), .int .i64 (QU d)] 3, QK gO [.int .i64 0, .int .i64 0, .int .i64 0, .int .i64 0] 113]) (fun x => 3 - x.i) ⟨0, 2, 0, 0, (if X3 K then 1 else 0)⟩ ?_ (by repeat (first | exact FrLe.nil | refine FrLe.cons rfl ?_)) ?_ ?_
   ·exact ⟨by simp only; omega, by simp, fun hb => ⟨by simp, by simp only; rw [if_pos hb]⟩, hpar _⟩
   ·(rw [show (if X3 K then (1 : Int) else 0) = 0 from if_neg h4]; exact Take.ent' (by repeat' constructor))
   ·rintro ⟨i, at_, W, H, M⟩ ⟨hat, hi3, hbk, hpi⟩
    dsimp only at hat hi3 hbk hpi ⊢
    refine Qb (Qb (Qa (Qc rfl rfl (Qc rfl rfl (Q8 rfl rfl rfl (WpL.nil (Qj rfl (fun h6 => ?_) (fun h6 => ?_))))))))
    ·have hi : i < 3 := by omega
     refine Wp.skip (Qb (Wp.block ?_))
     refine Qb (Qa (Qc rfl rfl (Qc rfl rfl (Xg i rfl rfl rfl (RdsL.blk (o := 0) (xs := [.int .i64 (QS a), .int .i64 (QT b), .int .i64 (QU d)]) rfl) (by exact Take.ent' (by repeat' constructor)) rfl (by omega) (by simp only [List.length_cons, List.length_nil]; omega) ?_))))
     refine Xk rfl rfl (RdsL.blk (o := 0) (xs := [.int .i64 (QS a), .int .i64 (QT b), .int .i64 (QU d)]) rfl) (by exact Take.ent' (by repeat' constructor)) (lsel_lim a b d i hi) ?_
     refine Qi rfl rfl (by repeat' constructor) (Z6 _) ?_
     rintro _ _ ⟨rfl, rfl⟩
     simp only [Qs]
     refine XH rfl ?_
     intro gN
     refine QC rfl rfl rfl (by rfl) rfl ?_
     refine WpL.nil (Qb (Qa (Qd rfl rfl (WpL.nil (Qb (Wp.block ?_))))))
     refine Wp.loopD (σ := PbX) (fun y => at_ ≤ y.at_ ∧ y.at_ ≤ s.size ∧ (y.k = 0 → YI (Q6 (QS a) (QT b) (QU d) i) y.t) ∧ Xh (Q6 (QS a) (QT b) (QU d) i) X5 ((QJ s).drop at_) at_ = (if y.k = 0 then Xh (Q6 (QS a) (QT b) (QU d) i) y.t ((QJ s).drop y.at_) y.at_ else (y.t, y.k, (y.at_ : Int)))) [10, 13, 14, 15, 81, 82, 83, 84, 85, 86, 87, 88, 89, 90, 91, 92, 93, 94, 95, 96, 97, 98, 99, 100] (fun y => [(13, .int .i64 y.k), (10, .int .i64 (y.at_ : Int))]) (fun y => [QK gN [.int .i64 y.t.ph, .int .i64 y.t.n, .int .i64 (Q6 (QS a) (QT b) (QU d) i), .int .i64 y.t.e] 170, QK gH [.int .i64 K, .int .i64 W, .int .i64 H, .int .i64 M] 113, QK gl [.int .i64 (QS a), .int .i64 (QT b), .int .i64 (QU d)] 3, QK gO [.int .i64 0, .int .i64 0, .int .i64 0, .int .i64 0] 113]) (fun y => s.size - y.at_) ⟨0, at_, X5⟩ ?_ (by repeat (first | exact FrLe.nil | refine FrLe.cons rfl ?_)) ?_ ?_
     ·exact ⟨Nat.le_refl _, hat, fun _ => (show YI _ X5 by unfold YI X5; dsimp only; have := (Y3 a b d i).1; omega), (if_pos rfl).symm⟩
     ·exact Ent.refl _
     ·rintro ⟨k, at2, t⟩ ⟨ha2, hat2, htk, hnr⟩
      dsimp only at ha2 hat2 htk hnr ⊢
      refine Qb (Qb (Qa (Qc rfl rfl (QH rfl rfl rfl (Qc rfl rfl (QN rfl rfl rfl (fun hg7 => ?_) (fun hg7 => ?_)))))))
      ·have hg7 := of_decide_eq_true hg7
       refine Qc rfl rfl (Qf rfl rfl (Qc rfl rfl (Qf rfl rfl (Xy rfl Tryz.underlying9 rfl (Qf rfl rfl (Q8 rfl rfl rfl (Qr rfl rfl rfl (WpL.nil (Qj rfl (fun h8 => ?_) (fun h8 => ?_))))))))))
       ·have hlt : at2 < s.size := by omega
        obtain ⟨cc, hcc⟩ : ∃ cc : Int, cc = ((s[at2]'hlt).toNat : Int) := ⟨_, rfl⟩
        obtain rfl : k = 0 := by assumption
        have htk2 := htk rfl
        rw [if_pos rfl] at hnr
        have hdr := XD hlt
        rw [← hcc] at hdr
        rw [hdr] at hnr
        have hst := Z3 hnr
        refine Wp.skip (Wp.block ?_)
        refine Qb ?_
        apply YE (fB := []) mixed 8 [(8, true)] rfl rfl (by kernel_rfl)
        apply YZ [⟨0, 90, _, [], false⟩, ⟨1, 91, _, [], false⟩, ⟨2, 92, _, [], false⟩, ⟨3, 93, _, [1, 2], false⟩, ⟨4, 94, _, [0, 3], false⟩, ⟨5, 89, _, [4], false⟩, ⟨6, 95, _, [5], false⟩, ⟨7, 96, _, [5], true⟩] [] [0, 1, 2, 3, 4, 5, 6] [15, 96] (.inl ⟨_, .nil⟩) rfl rfl rfl (by kernel_rfl) rfl rfl rfl rfl
        ·refine AllF.cons rfl rfl rfl rfl ?_ ?_
         ·refine Qw (vs := [_, _, _, _]) rfl rfl rfl (by rfl) ?_
          exact Qm rfl
         refine AllF.cons rfl rfl rfl rfl ?_ ?_
         ·exact Qc rfl rfl (Qm rfl)
         refine AllF.cons rfl rfl rfl rfl ?_ ?_
         ·exact Qc rfl rfl (Qm rfl)
         refine AllF.cons rfl rfl rfl rfl ?_ ?_
         ·refine Yo rfl Tryz.underlying9 rfl rfl (by omega) (by omega) ?_
          change WpL _ _ _ _ _ _ ((93, Value.int .u8 ((s[at2]'hlt).toNat : Int)) :: _) _
          rw [← hcc]
          exact Qm rfl
         refine AllF.cons rfl rfl rfl rfl ?_ ?_
         ·refine Qi rfl rfl (by repeat' constructor) (Z7 t.ph t.n _ t.e cc (by rw [hcc]; omega) (by rw [hcc]; exact u8_lt _) htk2.2.2.1 (Y3 a b d i).1 (Y3 a b d i).2 ⟨htk2.1, by have := htk2.2.1; omega⟩) ?_
          rintro _ _ ⟨rfl, rfl⟩
          simp only [Qs]
          exact WpL.nil ⟨rfl, rfl, rfl, by exact Ent.refl _⟩
         refine AllF.cons rfl rfl rfl rfl ?_ ?_
         ·exact Qc rfl rfl (Qm rfl)
         refine AllF.cons rfl rfl rfl rfl ?_ ?_
         ·exact QB rfl rfl rfl (Qm rfl)
         refine QD rfl rfl rfl rfl ?_ ?_
         ·exact QB rfl rfl rfl (Qm rfl)
         exact AllF.nil
        ·intro gS
         refine QC rfl rfl rfl (by rfl) rfl ?_
         refine WpL.nil ⟨rfl, rfl, ?_⟩
         apply GoR.nil [⟨10, 15, _, [0, 1, 2, 3, 4, 5, 6, 7, 8, 9], false⟩] (.inl ⟨_, .nil⟩) rfl rfl
         ·refine AllF.cons rfl rfl rfl rfl ?_ ?_
          ·exact Qd rfl rfl (Qm rfl)
          exact AllF.nil
         ·refine Qb (Qa ?_)
          refine Qw (vs := [_, _, _, _]) rfl rfl rfl (by rfl) ?_
          refine QC rfl rfl rfl (by rfl) rfl ?_
          refine WpL.nil (Qb (Qa (Qc rfl rfl (Qd rfl rfl (WpL.nil (Qa (Qc rfl rfl (QA rfl rfl rfl (Qo (by omega) (by omega)) ?_))))))))
          refine Qd rfl rfl (WpL.nil (Qq (Q := fun _ _ _ _ => False) (⟨(QG (Q6 (QS a) (QT b) (QU d) i) t cc).2, at2 + 1, (QG (Q6 (QS a) (QT b) (QU d) i) t cc).1⟩ : PbX) ?_ ?_ (by ((repeat (first | exact Top.refl | refine Top.push rfl ?_)); done)) (by repeat (first | exact FrLe.nil | refine FrLe.cons rfl ?_)) ?_))
          ·exact ⟨by simp only; omega, by simp only; omega, fun q => by rcases YS (c := cc) htk2 with z | z | z; exact z.2; exact absurd q (by simp only; omega); exact absurd q (by simp only; omega), hst⟩
          ·simp only; omega
          ·exact Take.ent' (by repeat' constructor)
       ·refine QP (Qb (Qb (Qa (Qc rfl rfl (QH rfl rfl rfl (WpL.nil (Qj rfl (fun h9 => ?_) (fun h9 => ?_))))))))
        ·have hr : Xh (Q6 (QS a) (QT b) (QU d) i) X5 ((QJ s).drop at_) at_ = (t, k, (at2 : Int)) := by
          by_cases hk0 : k = 0
          ·rw [hnr, if_pos hk0, show (QJ s).drop at2 = [] from List.drop_of_length_le (by rw [QZ]; omega), hk0]; rfl
          ·rw [hnr, if_neg hk0]
         have hps := XS hpi hi (fun hb => ⟨by exact absurd hb h4, (hbk hb).2⟩) hr
         refine Qb (Qa ?_)
         refine Xu rfl rfl ?_
         refine Qc rfl rfl ?_
         refine QC rfl rfl rfl (by rfl) rfl ?_
         refine Qd rfl rfl (Qd rfl rfl (WpL.nil (Qh ?_)))
         apply RetQ.mk
         ·exact (QL rfl rfl (by rfl) rfl rfl)
         ·exact ⟨0, 0, 0, 0, _, 6, by rw [hps.1 h9, QZ, show s.size = at2 by omega], rfl, rfl⟩
         ·exact Ent.nil _
        ·have hr : Xh (Q6 (QS a) (QT b) (QU d) i) X5 ((QJ s).drop at_) at_ = (t, k, (at2 : Int)) := by
          by_cases hk0 : k = 0
          ·rw [hnr, if_pos hk0, show (QJ s).drop at2 = [] from List.drop_of_length_le (by rw [QZ]; omega), hk0]; rfl
          ·rw [hnr, if_neg hk0]
         have hps := XS hpi hi (fun hb => ⟨by omega, (hbk hb).2⟩) hr
         refine Wp.skip (Qb (Qb (Qa (Qc rfl rfl (QH rfl rfl rfl (WpL.nil (Qj rfl (fun h10 => ?_) (fun h10 => ?_))))))))
         ·refine Qb ?_
          apply Xe (fB := [QK gN [.int .i64 t.ph, .int .i64 t.n, .int .i64 (Q6 (QS a) (QT b) (QU d) i), .int .i64 t.e] 170]) mixed [(4, false)] (by kernel_rfl)
          apply Q7 [⟨0, 107, _, [], false⟩, ⟨1, 108, _, [], true⟩, ⟨2, 109, _, [], true⟩, ⟨3, 110, _, [2], true⟩] [] [0] [5, 6, 108, 109, 110] (.inl ⟨_, by repeat' constructor⟩) rfl rfl rfl (by kernel_rfl) rfl rfl rfl
          ·refine AllF.cons rfl rfl rfl rfl ?_ ?_
           ·refine Xu rfl rfl ?_
            exact Qm rfl
           refine QD rfl rfl rfl rfl ?_ ?_
           ·exact Qc rfl rfl (Qm rfl)
           refine QD rfl rfl rfl rfl ?_ ?_
           ·exact Qk (o2 := 3) rfl rfl rfl (Qm rfl)
           refine QD rfl rfl rfl rfl ?_ ?_
           ·refine Qn rfl rfl (by rfl) ?_
            exact Qm rfl
           exact AllF.nil
          ·refine QC rfl rfl rfl (by rfl) rfl ?_
           refine WpL.nil ⟨rfl, rfl, ?_⟩
           apply GoR.nil [⟨5, 5, _, [0, 1, 4], false⟩, ⟨6, 6, _, [0, 1, 2, 3, 4, 5], false⟩] (.inl ⟨_, by repeat' constructor⟩) rfl rfl
           ·refine AllF.cons rfl rfl rfl rfl ?_ ?_
            ·exact Qd rfl rfl (Qm rfl)
            refine AllF.cons rfl rfl rfl rfl ?_ ?_
            ·exact Qd rfl rfl (Qm rfl)
            exact AllF.nil
           ·refine Qh ?_
            apply RetQ.mk
            ·exact (QL rfl rfl (by rfl) rfl rfl)
            ·exact ⟨0, 0, 0, 0, _, _, by rw [hps.2.1 h10], rfl, rfl⟩
            ·exact Ent.nil _
         ·refine Wp.skip (Qb (Qb (Qa (Qk (o2 := 1) rfl rfl rfl (Qn rfl rfl (by rfl) ?_)))))
          refine QH rfl rfl rfl (WpL.nil (Qj rfl (fun h11 => ?_) (fun h11 => ?_)))
          ·refine Qb (Qa ?_)
           refine Xu rfl rfl ?_
           refine Qc rfl rfl ?_
           refine QC rfl rfl rfl (by rfl) rfl ?_
           refine Qd rfl rfl (Qd rfl rfl (WpL.nil (Qh ?_)))
           apply RetQ.mk
           ·exact (QL rfl rfl (by rfl) rfl rfl)
           ·exact ⟨0, 0, 0, 0, _, 4, by rw [hps.2.2.1 h9 h10 h11], rfl, rfl⟩
           ·exact Ent.nil _
          ·have hpn := hps.2.2.2 h9 h10 h11
           rw [Int.toNat_natCast] at hpn
           refine Wp.skip (Qb (Qa (Qc rfl rfl (WpL.nil (Wp.block ?_)))))
           refine Qb (Qa (QH rfl rfl rfl (Qd rfl rfl (WpL.nil (Qj rfl (fun h12 => ?_) (fun h12 => ?_))))))
           ·refine Qa (Qk (o2 := 1) rfl rfl rfl (Qn rfl rfl (by rfl) ?_))
            refine Qk (o2 := 1) rfl rfl rfl (QV rfl rfl rfl (WpL.nil (Qa (Qc rfl rfl (QA rfl rfl rfl (Qo (by omega) (by omega)) ?_)))))
            refine Qd rfl rfl (WpL.nil (Qq (⟨i + 1, at2, t.n, H, M⟩ : PaX) ?_ ?_ (by ((repeat (first | exact Top.refl | refine Top.push rfl ?_)); done)) (by repeat (first | exact FrLe.nil | refine FrLe.cons rfl ?_)) ?_))
            ·have e : i = 0 := by omega
             subst e
             exact ⟨hat2, by simp only; omega, fun hb => ⟨by simp only; omega, by exact (hbk hb).2⟩, hpn⟩
            ·simp only; omega
            ·exact Take.ent' (by repeat' constructor)
           ·refine Qb (Qa (QH rfl rfl rfl (Qd rfl rfl (WpL.nil (Qj rfl (fun h13 => ?_) (fun h13 => ?_))))))
            ·refine Qa (Qk (o2 := 1) rfl rfl rfl (Qn rfl rfl (by rfl) ?_))
             refine Qk (o2 := 2) rfl rfl rfl (QV rfl rfl rfl (WpL.nil (Qa (Qc rfl rfl (QA rfl rfl rfl (Qo (by omega) (by omega)) ?_)))))
             refine Qd rfl rfl (WpL.nil (Qq (⟨i + 1, at2, W, t.n, M⟩ : PaX) ?_ ?_ (by ((repeat (first | exact Top.refl | refine Top.push rfl ?_)); done)) (by repeat (first | exact FrLe.nil | refine FrLe.cons rfl ?_)) ?_))
             ·have e : i = 1 := by omega
              subst e
              exact ⟨hat2, by simp only; omega, fun hb => ⟨by simp only; omega, by exact (hbk hb).2⟩, hpn⟩
             ·simp only; omega
             ·exact Take.ent' (by repeat' constructor)
            ·refine Qa (Qk (o2 := 1) rfl rfl rfl (Qn rfl rfl (by rfl) ?_))
             refine Qk (o2 := 3) rfl rfl rfl (QV rfl rfl rfl (WpL.nil (Qa (Qc rfl rfl (QA rfl rfl rfl (Qo (by omega) (by omega)) ?_)))))
             refine Qd rfl rfl (WpL.nil (Qq (⟨i + 1, at2, W, H, t.n⟩ : PaX) ?_ ?_ (by ((repeat (first | exact Top.refl | refine Top.push rfl ?_)); done)) (by repeat (first | exact FrLe.nil | refine FrLe.cons rfl ?_)) ?_))
             ·have e : i = 2 := by omega
              subst e
              exact ⟨hat2, by simp only; omega, fun hb => ⟨by simp only; omega, by exact absurd hb h4⟩, hpn⟩
             ·simp only; omega
             ·exact Take.ent' (by repeat' constructor)
      ·have hg7 := of_decide_eq_false hg7
       refine Qe rfl rfl rfl (by decide) (Qe rfl rfl rfl (by decide) (Qe rfl rfl rfl (by decide) (Qt rfl rfl rfl (WpL.nil (QW rfl (QP (Qb (Qb (Qa (Qc rfl rfl (QH rfl rfl rfl (WpL.nil ?_))))))))))))
       refine Qj rfl (fun h9 => ?_) (fun h9 => ?_)
       ·have hr : Xh (Q6 (QS a) (QT b) (QU d) i) X5 ((QJ s).drop at_) at_ = (t, k, (at2 : Int)) := by
         by_cases hk0 : k = 0
         ·rw [hnr, if_pos hk0, show (QJ s).drop at2 = [] from List.drop_of_length_le (by rw [QZ]; omega), hk0]; rfl
         ·rw [hnr, if_neg hk0]
        have hps := XS hpi hi (fun hb => ⟨by omega, (hbk hb).2⟩) hr
        refine Qb (Qa ?_)
        refine Xu rfl rfl ?_
        refine Qc rfl rfl ?_
        refine QC rfl rfl rfl (by rfl) rfl ?_
        refine Qd rfl rfl (Qd rfl rfl (WpL.nil (Qh ?_)))
        apply RetQ.mk
        ·exact (QL rfl rfl (by rfl) rfl rfl)
        ·exact ⟨0, 0, 0, 0, _, 6, by rw [hps.1 h9, QZ, show s.size = at2 by omega], rfl, rfl⟩
        ·exact Ent.nil _
       ·have hr : Xh (Q6 (QS a) (QT b) (QU d) i) X5 ((QJ s).drop at_) at_ = (t, k, (at2 : Int)) := by
         by_cases hk0 : k = 0
         ·rw [hnr, if_pos hk0, show (QJ s).drop at2 = [] from List.drop_of_length_le (by rw [QZ]; omega), hk0]; rfl
         ·rw [hnr, if_neg hk0]
        have hps := XS hpi hi (fun hb => ⟨by exact absurd hb h4, (hbk hb).2⟩) hr
        refine Wp.skip (Qb (Qb (Qa (Qc rfl rfl (QH rfl rfl rfl (WpL.nil (Qj rfl (fun h10 => ?_) (fun h10 => ?_))))))))
        ·refine Qb ?_
         apply Xe (fB := [QK gN [.int .i64 t.ph, .int .i64 t.n, .int .i64 (Q6 (QS a) (QT b) (QU d) i), .int .i64 t.e] 170]) mixed [(4, false)] (by kernel_rfl)
         apply Q7 [⟨0, 107, _, [], false⟩, ⟨1, 108, _, [], true⟩, ⟨2, 109, _, [], true⟩, ⟨3, 110, _, [2], true⟩] [] [0] [5, 6, 108, 109, 110] (.inl ⟨_, by repeat' constructor⟩) rfl rfl rfl (by kernel_rfl) rfl rfl rfl
         ·refine AllF.cons rfl rfl rfl rfl ?_ ?_
          ·refine Xu rfl rfl ?_
           exact Qm rfl
          refine QD rfl rfl rfl rfl ?_ ?_
          ·exact Qc rfl rfl (Qm rfl)
          refine QD rfl rfl rfl rfl ?_ ?_
          ·exact Qk (o2 := 3) rfl rfl rfl (Qm rfl)
          refine QD rfl rfl rfl rfl ?_ ?_
          ·refine Qn rfl rfl (by rfl) ?_
           exact Qm rfl
          exact AllF.nil
         ·refine QC rfl rfl rfl (by rfl) rfl ?_
          refine WpL.nil ⟨rfl, rfl, ?_⟩
          apply GoR.nil [⟨5, 5, _, [0, 1, 4], false⟩, ⟨6, 6, _, [0, 1, 2, 3, 4, 5], false⟩] (.inl ⟨_, by repeat' constructor⟩) rfl rfl
          ·refine AllF.cons rfl rfl rfl rfl ?_ ?_
           ·exact Qd rfl rfl (Qm rfl)
           refine AllF.cons rfl rfl rfl rfl ?_ ?_
           ·exact Qd rfl rfl (Qm rfl)
           exact AllF.nil
          ·refine Qh ?_
           apply RetQ.mk
           ·exact (QL rfl rfl (by rfl) rfl rfl)
           ·exact ⟨0, 0, 0, 0, _, _, by rw [hps.2.1 h10], rfl, rfl⟩
           ·exact Ent.nil _
        ·refine Wp.skip (Qb (Qb (Qa (Qk (o2 := 1) rfl rfl rfl (Qn rfl rfl (by rfl) ?_)))))
         refine QH rfl rfl rfl (WpL.nil (Qj rfl (fun h11 => ?_) (fun h11 => ?_)))
         ·refine Qb (Qa ?_)
          refine Xu rfl rfl ?_
          refine Qc rfl rfl ?_
          refine QC rfl rfl rfl (by rfl) rfl ?_
          refine Qd rfl rfl (Qd rfl rfl (WpL.nil (Qh ?_)))
          apply RetQ.mk
          ·exact (QL rfl rfl (by rfl) rfl rfl)
          ·exact ⟨0, 0, 0, 0, _, 4, by rw [hps.2.2.1 h9 h10 h11], rfl, rfl⟩
          ·exact Ent.nil _
         ·have hpn := hps.2.2.2 h9 h10 h11
          rw [Int.toNat_natCast] at hpn
          refine Wp.skip (Qb (Qa (Qc rfl rfl (WpL.nil (Wp.block ?_)))))
          refine Qb (Qa (QH rfl rfl rfl (Qd rfl rfl (WpL.nil (Qj rfl (fun h12 => ?_) (fun h12 => ?_))))))
          ·refine Qa (Qk (o2 := 1) rfl rfl rfl (Qn rfl rfl (by rfl) ?_))
           refine Qk (o2 := 1) rfl rfl rfl (QV rfl rfl rfl (WpL.nil (Qa (Qc rfl rfl (QA rfl rfl rfl (Qo (by omega) (by omega)) ?_)))))
           refine Qd rfl rfl (WpL.nil (Qq (⟨i + 1, at2, t.n, H, M⟩ : PaX) ?_ ?_ (by ((repeat (first | exact Top.refl | refine Top.push rfl ?_)); done)) (by repeat (first | exact FrLe.nil | refine FrLe.cons rfl ?_)) ?_))
           ·have e : i = 0 := by omega
            subst e
            exact ⟨hat2, by simp only; omega, fun hb => ⟨by simp only; omega, by exact (hbk hb).2⟩, hpn⟩
           ·simp only; omega
           ·exact Take.ent' (by repeat' constructor)
          ·refine Qb (Qa (QH rfl rfl rfl (Qd rfl rfl (WpL.nil (Qj rfl (fun h13 => ?_) (fun h13 => ?_))))))
           ·refine Qa (Qk (o2 := 1) rfl rfl rfl (Qn rfl rfl (by rfl) ?_))
            refine Qk (o2 := 2) rfl rfl rfl (QV rfl rfl rfl (WpL.nil (Qa (Qc rfl rfl (QA rfl rfl rfl (Qo (by omega) (by omega)) ?_)))))
            refine Qd rfl rfl (WpL.nil (Qq (⟨i + 1, at2, W, t.n, M⟩ : PaX) ?_ ?_ (by ((repeat (first | exact Top.refl | refine Top.push rfl ?_)); done)) (by repeat (first | exact FrLe.nil | refine FrLe.cons rfl ?_)) ?_))
            ·have e : i = 1 := by omega
             subst e
             exact ⟨hat2, by simp only; omega, fun hb => ⟨by simp only; omega, by exact (hbk hb).2⟩, hpn⟩
            ·simp only; omega
            ·exact Take.ent' (by repeat' constructor)
           ·refine Qa (Qk (o2 := 1) rfl rfl rfl (Qn rfl rfl (by rfl) ?_))
            refine Qk (o2 := 3) rfl rfl rfl (QV rfl rfl rfl (WpL.nil (Qa (Qc rfl rfl (QA rfl rfl rfl (Qo (by omega) (by omega)) ?_)))))
            refine Qd rfl rfl (WpL.nil (Qq (⟨i + 1, at2, W, H, t.n⟩ : PaX) ?_ ?_ (by ((repeat (first | exact Top.refl | refine Top.push rfl ?_)); done)) (by repeat (first | exact FrLe.nil | refine FrLe.cons rfl ?_)) ?_))
            ·have e : i = 2 := by omega
             subst e
             exact ⟨hat2, by simp only; omega, fun hb => ⟨by simp only; exact absurd hb h4, by exact absurd hb h4⟩, hpn⟩
            ·simp only; omega
            ·exact Take.ent' (by repeat' constructor)
    ·refine QP (Qb (Qa ?_))
     refine Qw (vs := [_, _, _, _]) rfl rfl rfl (by rfl) ?_
     refine Qc rfl rfl ?_
     refine QC rfl rfl rfl (by rfl) rfl ?_
     refine Qd rfl rfl (Qd rfl rfl (WpL.nil (Qh ?_)))
     apply RetQ.mk
     ·exact (QL rfl rfl (by rfl) rfl rfl)
     ·exact ⟨K, W, H, M, _, 0, by unfold parI at hpi; rw [hpi, if_pos (by exact .inl (by omega))], rfl, rfl⟩
     ·exact Ent.nil _
 ·have hg5 := of_decide_eq_false hg5
  refine Qe rfl rfl rfl (by decide) (Qe rfl rfl rfl (by decide) (Qe rfl rfl rfl (by decide) (Qt rfl rfl rfl (WpL.nil (QW rfl (Wp.skip (Qb (Qb (Qa (Qc rfl rfl (Xy rfl Tryz.underlying9 rfl (Q8 rfl rfl rfl ?_))))))))))))
  refine WpL.nil (Qz rfl (by omega) ?_)
  refine Wp.skip (Qb (Qa (Qc rfl rfl (Yo rfl Tryz.underlying9 rfl rfl (by omega) (by omega) ?_))))
  have hu1 := u8_lt (s[1]'(by omega))
  change WpL _ _ _ _ _ _ ((61, Value.int .u8 ((s[1]'(by omega)).toNat : Int)) :: _) _
  refine XY rfl Tryz.underlying5 rfl (Qo (by omega) (by omega)) ?_
  refine Yp rfl rfl rfl (Qo (by omega) (by omega)) ?_
  change WpL _ _ _ _ _ _ ((63, Value.int .i64 (((s[1]'(by omega)).toNat : Int) - 48)) :: _) _
  have hp0 := hdP_3 (QS a) (QT b) (QU d) (bs := (QJ s).drop 3) (lim_o a b d).a.1 h80 h1c h2
  rw [← hbs2, ← hbs1, ← hbs] at hp0
  have hK0 : 1 ≤ ((s[1]'(by omega)).toNat : Int) - 48 ∧ ((s[1]'(by omega)).toNat : Int) - 48 ≤ 6 := by omega
  generalize ((s[1]'(by omega)).toNat : Int) - 48 = K at hp0 hK0 ⊢
  have hpar : ∀ M, parI (QS a) (QT b) (QU d) K (QJ s) 0 2 0 0 M := fun M => by unfold parI; rw [if_neg (by omega)]; exact hp0
  refine Xu rfl rfl ?_
  refine XH rfl ?_
  intro gH
  refine QC rfl rfl rfl (by rfl) rfl ?_
  refine WpL.nil (Qb (Qa (Qd rfl rfl (WpL.nil (Qb (Qb (Qa (Qk (o2 := 0) rfl rfl rfl (Qn rfl rfl (by rfl) ?_)))))))))
  refine Qi rfl rfl (by repeat' constructor) (VB _) ?_
  rintro _ _ ⟨rfl, rfl⟩
  simp only [Qs]
  refine WpL.nil (Qj rfl (fun h4 => ?_) (fun h4 => ?_))
  ·refine Qb (Qa (Qd rfl rfl (WpL.nil (Qa (Qk (o2 := 3) rfl rfl rfl (QV rfl rfl rfl (WpL.nil (Qb (Qa ?_)))))))))
   refine Qw (vs := [_, _, _]) rfl rfl rfl (by rfl) ?_
   refine Qi rfl rfl (by repeat' constructor) (ZH _ _ _) ?_
   rintro _ _ ⟨gl, rfl, rfl⟩
   simp only [Qs]
   refine Qd rfl rfl (WpL.nil (Qb (Qa (Qd rfl rfl (WpL.nil (Qb (Qb (Qa (Qd rfl rfl (WpL.nil (Wp.block ?_)))))))))))
   refine Wp.loopD (σ := PaX) (fun x => x.at_ ≤ s.size ∧ x.i ≤ 3 ∧ (X3 K → x.i ≤ 2 ∧ x.M = 1) ∧ parI (QS a) (QT b) (QU d) K (QJ s) x.i x.at_ x.W x.H x.M) [5, 6, 10, 11, 12, 13, 14, 15, 71, 72, 73, 74, 75, 76, 77, 78, 79, 80, 81, 82, 83, 84, 85, 86, 87, 88, 89, 90, 91, 92, 93, 94, 95, 96, 97, 98, 99, 100, 101, 102, 103, 104, 105, 106, 107, 108, 109, 110, 111, 112, 113, 114, 115, 116, 117, 118, 119, 120, 121, 122, 123, 124, 125, 126, 127, 128, 129] (fun x => [(11, .int .i64 (x.i : Int)), (10, .int .i64 (x.at_ : Int))]) (fun x => [QK gH [.int .i64 K, .int .i64 x.W, .int .i64 x.H, .int .i64 x.M] 113, QK gl [.int .i64 (QS a), .int .i64 (QT b), .int .i64 (QU d)] 3, QK gO [.int .i64 0, .int .i64 0, .int .i64 0, .int .i64 0] 113]) (fun x => 3 - x.i) ⟨0, 2, 0, 0, (if X3 K then 1 else 0)⟩ ?_ (by repeat (first | exact FrLe.nil | refine FrLe.cons rfl ?_)) ?_ ?_
   ·exact ⟨by simp only; omega, by simp, fun hb => ⟨by simp, by simp only; rw [if_pos hb]⟩, hpar _⟩
   ·(rw [show (if X3 K then (1 : Int) else 0) = 1 from if_pos h4]; exact Take.ent' (by repeat' constructor))
   ·rintro ⟨i, at_, W, H, M⟩ ⟨hat, hi3, hbk, hpi⟩
    dsimp only at hat hi3 hbk hpi ⊢
    refine Qb (Qb (Qa (Qc rfl rfl (Qc rfl rfl (Q8 rfl rfl rfl (WpL.nil (Qj rfl (fun h6 => ?_) (fun h6 => ?_))))))))
    ·have hi : i < 3 := by omega
     refine Wp.skip (Qb (Wp.block ?_))
     refine Qb (Qa (Qc rfl rfl (Qc rfl rfl (Xg i rfl rfl rfl (RdsL.blk (o := 0) (xs := [.int .i64 (QS a), .int .i64 (QT b), .int .i64 (QU d)]) rfl) (by exact Take.ent' (by repeat' constructor)) rfl (by omega) (by simp only [List.length_cons, List.length_nil]; omega) ?_))))
     refine Xk rfl rfl (RdsL.blk (o := 0) (xs := [.int .i64 (QS a), .int .i64 (QT b), .int .i64 (QU d)]) rfl) (by exact Take.ent' (by repeat' constructor)) (lsel_lim a b d i hi) ?_
     refine Qi rfl rfl (by repeat' constructor) (Z6 _) ?_
     rintro _ _ ⟨rfl, rfl⟩
     simp only [Qs]
     refine XH rfl ?_
     intro gN
     refine QC rfl rfl rfl (by rfl) rfl ?_
     refine WpL.nil (Qb (Qa (Qd rfl rfl (WpL.nil (Qb (Wp.block ?_))))))
     refine Wp.loopD (σ := PbX) (fun y => at_ ≤ y.at_ ∧ y.at_ ≤ s.size ∧ (y.k = 0 → YI (Q6 (QS a) (QT b) (QU d) i) y.t) ∧ Xh (Q6 (QS a) (QT b) (QU d) i) X5 ((QJ s).drop at_) at_ = (if y.k = 0 then Xh (Q6 (QS a) (QT b) (QU d) i) y.t ((QJ s).drop y.at_) y.at_ else (y.t, y.k, (y.at_ : Int)))) [10, 13, 14, 15, 81, 82, 83, 84, 85, 86, 87, 88, 89, 90, 91, 92, 93, 94, 95, 96, 97, 98, 99, 100] (fun y => [(13, .int .i64 y.k), (10, .int .i64 (y.at_ : Int))]) (fun y => [QK gN [.int .i64 y.t.ph, .int .i64 y.t.n, .int .i64 (Q6 (QS a) (QT b) (QU d) i), .int .i64 y.t.e] 170, QK gH [.int .i64 K, .int .i64 W, .int .i64 H, .int .i64 M] 113, QK gl [.int .i64 (QS a), .int .i64 (QT b), .int .i64 (QU d)] 3, QK gO [.int .i64 0, .int .i64 0, .int .i64 0, .int .i64 0] 113]) (fun y => s.size - y.at_) ⟨0, at_, X5⟩ ?_ (by repeat (first | exact FrLe.nil | refine FrLe.cons rfl ?_)) ?_ ?_
     ·exact ⟨Nat.le_refl _, hat, fun _ => (show YI _ X5 by unfold YI X5; dsimp only; have := (Y3 a b d i).1; omega), (if_pos rfl).symm⟩
     ·exact Ent.refl _
     ·rintro ⟨k, at2, t⟩ ⟨ha2, hat2, htk, hnr⟩
      dsimp only at ha2 hat2 htk hnr ⊢
      refine Qb (Qb (Qa (Qc rfl rfl (QH rfl rfl rfl (Qc rfl rfl (QN rfl rfl rfl (fun hg8 => ?_) (fun hg8 => ?_)))))))
      ·have hg8 := of_decide_eq_true hg8
       refine Qc rfl rfl (Qf rfl rfl (Qc rfl rfl (Qf rfl rfl (Xy rfl Tryz.underlying9 rfl (Qf rfl rfl (Q8 rfl rfl rfl (Qr rfl rfl rfl (WpL.nil (Qj rfl (fun h8 => ?_) (fun h8 => ?_))))))))))
       ·have hlt : at2 < s.size := by omega
        obtain ⟨cc, hcc⟩ : ∃ cc : Int, cc = ((s[at2]'hlt).toNat : Int) := ⟨_, rfl⟩
        obtain rfl : k = 0 := by assumption
        have htk2 := htk rfl
        rw [if_pos rfl] at hnr
        have hdr := XD hlt
        rw [← hcc] at hdr
        rw [hdr] at hnr
        have hst := Z3 hnr
        refine Wp.skip (Wp.block ?_)
        refine Qb ?_
        apply YE (fB := []) mixed 8 [(8, true)] rfl rfl (by kernel_rfl)
        apply YZ [⟨0, 90, _, [], false⟩, ⟨1, 91, _, [], false⟩, ⟨2, 92, _, [], false⟩, ⟨3, 93, _, [1, 2], false⟩, ⟨4, 94, _, [0, 3], false⟩, ⟨5, 89, _, [4], false⟩, ⟨6, 95, _, [5], false⟩, ⟨7, 96, _, [5], true⟩] [] [0, 1, 2, 3, 4, 5, 6] [15, 96] (.inl ⟨_, .nil⟩) rfl rfl rfl (by kernel_rfl) rfl rfl rfl rfl
        ·refine AllF.cons rfl rfl rfl rfl ?_ ?_
         ·refine Qw (vs := [_, _, _, _]) rfl rfl rfl (by rfl) ?_
          exact Qm rfl
         refine AllF.cons rfl rfl rfl rfl ?_ ?_
         ·exact Qc rfl rfl (Qm rfl)
         refine AllF.cons rfl rfl rfl rfl ?_ ?_
         ·exact Qc rfl rfl (Qm rfl)
         refine AllF.cons rfl rfl rfl rfl ?_ ?_
         ·refine Yo rfl Tryz.underlying9 rfl rfl (by omega) (by omega) ?_
          change WpL _ _ _ _ _ _ ((93, Value.int .u8 ((s[at2]'hlt).toNat : Int)) :: _) _
          rw [← hcc]
          exact Qm rfl
         refine AllF.cons rfl rfl rfl rfl ?_ ?_
         ·refine Qi rfl rfl (by repeat' constructor) (Z7 t.ph t.n _ t.e cc (by rw [hcc]; omega) (by rw [hcc]; exact u8_lt _) htk2.2.2.1 (Y3 a b d i).1 (Y3 a b d i).2 ⟨htk2.1, by have := htk2.2.1; omega⟩) ?_
          rintro _ _ ⟨rfl, rfl⟩
          simp only [Qs]
          exact WpL.nil ⟨rfl, rfl, rfl, by exact Ent.refl _⟩
         refine AllF.cons rfl rfl rfl rfl ?_ ?_
         ·exact Qc rfl rfl (Qm rfl)
         refine AllF.cons rfl rfl rfl rfl ?_ ?_
         ·exact QB rfl rfl rfl (Qm rfl)
         refine QD rfl rfl rfl rfl ?_ ?_
         ·exact QB rfl rfl rfl (Qm rfl)
         exact AllF.nil
        ·intro gS
         refine QC rfl rfl rfl (by rfl) rfl ?_
         refine WpL.nil ⟨rfl, rfl, ?_⟩
         apply GoR.nil [⟨10, 15, _, [0, 1, 2, 3, 4, 5, 6, 7, 8, 9], false⟩] (.inl ⟨_, .nil⟩) rfl rfl
         ·refine AllF.cons rfl rfl rfl rfl ?_ ?_
          ·exact Qd rfl rfl (Qm rfl)
          exact AllF.nil
         ·refine Qb (Qa ?_)
          refine Qw (vs := [_, _, _, _]) rfl rfl rfl (by rfl) ?_
          refine QC rfl rfl rfl (by rfl) rfl ?_
          refine WpL.nil (Qb (Qa (Qc rfl rfl (Qd rfl rfl (WpL.nil (Qa (Qc rfl rfl (QA rfl rfl rfl (Qo (by omega) (by omega)) ?_))))))))
          refine Qd rfl rfl (WpL.nil (Qq (Q := fun _ _ _ _ => False) (⟨(QG (Q6 (QS a) (QT b) (QU d) i) t cc).2, at2 + 1, (QG (Q6 (QS a) (QT b) (QU d) i) t cc).1⟩ : PbX) ?_ ?_ (by ((repeat (first | exact Top.refl | refine Top.push rfl ?_)); done)) (by repeat (first | exact FrLe.nil | refine FrLe.cons rfl ?_)) ?_))
          ·exact ⟨by simp only; omega, by simp only; omega, fun q => by rcases YS (c := cc) htk2 with z | z | z; exact z.2; exact absurd q (by simp only; omega); exact absurd q (by simp only; omega), hst⟩
          ·simp only; omega
          ·exact Take.ent' (by repeat' constructor)
       ·refine QP (Qb (Qb (Qa (Qc rfl rfl (QH rfl rfl rfl (WpL.nil (Qj rfl (fun h9 => ?_) (fun h9 => ?_))))))))
        ·have hr : Xh (Q6 (QS a) (QT b) (QU d) i) X5 ((QJ s).drop at_) at_ = (t, k, (at2 : Int)) := by
          by_cases hk0 : k = 0
          ·rw [hnr, if_pos hk0, show (QJ s).drop at2 = [] from List.drop_of_length_le (by rw [QZ]; omega), hk0]; rfl
          ·rw [hnr, if_neg hk0]
         have hps := XS hpi hi (fun hb => ⟨by omega, (hbk hb).2⟩) hr
         refine Qb (Qa ?_)
         refine Xu rfl rfl ?_
         refine Qc rfl rfl ?_
         refine QC rfl rfl rfl (by rfl) rfl ?_
         refine Qd rfl rfl (Qd rfl rfl (WpL.nil (Qh ?_)))
         apply RetQ.mk
         ·exact (QL rfl rfl (by rfl) rfl rfl)
         ·exact ⟨0, 0, 0, 0, _, 6, by rw [hps.1 h9, QZ, show s.size = at2 by omega], rfl, rfl⟩
         ·exact Ent.nil _
        ·have hr : Xh (Q6 (QS a) (QT b) (QU d) i) X5 ((QJ s).drop at_) at_ = (t, k, (at2 : Int)) := by
          by_cases hk0 : k = 0
          ·rw [hnr, if_pos hk0, show (QJ s).drop at2 = [] from List.drop_of_length_le (by rw [QZ]; omega), hk0]; rfl
          ·rw [hnr, if_neg hk0]
         have hps := XS hpi hi (fun hb => ⟨by omega, (hbk hb).2⟩) hr
         refine Wp.skip (Qb (Qb (Qa (Qc rfl rfl (QH rfl rfl rfl (WpL.nil (Qj rfl (fun h10 => ?_) (fun h10 => ?_))))))))
         ·refine Qb ?_
          apply Xe (fB := [QK gN [.int .i64 t.ph, .int .i64 t.n, .int .i64 (Q6 (QS a) (QT b) (QU d) i), .int .i64 t.e] 170]) mixed [(4, false)] (by kernel_rfl)
          apply Q7 [⟨0, 107, _, [], false⟩, ⟨1, 108, _, [], true⟩, ⟨2, 109, _, [], true⟩, ⟨3, 110, _, [2], true⟩] [] [0] [5, 6, 108, 109, 110] (.inl ⟨_, by repeat' constructor⟩) rfl rfl rfl (by kernel_rfl) rfl rfl rfl
          ·refine AllF.cons rfl rfl rfl rfl ?_ ?_
           ·refine Xu rfl rfl ?_
            exact Qm rfl
           refine QD rfl rfl rfl rfl ?_ ?_
           ·exact Qc rfl rfl (Qm rfl)
           refine QD rfl rfl rfl rfl ?_ ?_
           ·exact Qk (o2 := 3) rfl rfl rfl (Qm rfl)
           refine QD rfl rfl rfl rfl ?_ ?_
           ·refine Qn rfl rfl (by rfl) ?_
            exact Qm rfl
           exact AllF.nil
          ·refine QC rfl rfl rfl (by rfl) rfl ?_
           refine WpL.nil ⟨rfl, rfl, ?_⟩
           apply GoR.nil [⟨5, 5, _, [0, 1, 4], false⟩, ⟨6, 6, _, [0, 1, 2, 3, 4, 5], false⟩] (.inl ⟨_, by repeat' constructor⟩) rfl rfl
           ·refine AllF.cons rfl rfl rfl rfl ?_ ?_
            ·exact Qd rfl rfl (Qm rfl)
            refine AllF.cons rfl rfl rfl rfl ?_ ?_
            ·exact Qd rfl rfl (Qm rfl)
            exact AllF.nil
           ·refine Qh ?_
            apply RetQ.mk
            ·exact (QL rfl rfl (by rfl) rfl rfl)
            ·exact ⟨0, 0, 0, 0, _, _, by rw [hps.2.1 h10], rfl, rfl⟩
            ·exact Ent.nil _
         ·refine Wp.skip (Qb (Qb (Qa (Qk (o2 := 1) rfl rfl rfl (Qn rfl rfl (by rfl) ?_)))))
          refine QH rfl rfl rfl (WpL.nil (Qj rfl (fun h11 => ?_) (fun h11 => ?_)))
          ·refine Qb (Qa ?_)
           refine Xu rfl rfl ?_
           refine Qc rfl rfl ?_
           refine QC rfl rfl rfl (by rfl) rfl ?_
           refine Qd rfl rfl (Qd rfl rfl (WpL.nil (Qh ?_)))
           apply RetQ.mk
           ·exact (QL rfl rfl (by rfl) rfl rfl)
           ·exact ⟨0, 0, 0, 0, _, 4, by rw [hps.2.2.1 h9 h10 h11], rfl, rfl⟩
           ·exact Ent.nil _
          ·have hpn := hps.2.2.2 h9 h10 h11
           rw [Int.toNat_natCast] at hpn
           refine Wp.skip (Qb (Qa (Qc rfl rfl (WpL.nil (Wp.block ?_)))))
           refine Qb (Qa (QH rfl rfl rfl (Qd rfl rfl (WpL.nil (Qj rfl (fun h12 => ?_) (fun h12 => ?_))))))
           ·refine Qa (Qk (o2 := 1) rfl rfl rfl (Qn rfl rfl (by rfl) ?_))
            refine Qk (o2 := 1) rfl rfl rfl (QV rfl rfl rfl (WpL.nil (Qa (Qc rfl rfl (QA rfl rfl rfl (Qo (by omega) (by omega)) ?_)))))
            refine Qd rfl rfl (WpL.nil (Qq (⟨i + 1, at2, t.n, H, M⟩ : PaX) ?_ ?_ (by ((repeat (first | exact Top.refl | refine Top.push rfl ?_)); done)) (by repeat (first | exact FrLe.nil | refine FrLe.cons rfl ?_)) ?_))
            ·have e : i = 0 := by omega
             subst e
             exact ⟨hat2, by simp only; omega, fun hb => ⟨by simp only; omega, by exact (hbk hb).2⟩, hpn⟩
            ·simp only; omega
            ·exact Take.ent' (by repeat' constructor)
           ·refine Qb (Qa (QH rfl rfl rfl (Qd rfl rfl (WpL.nil (Qj rfl (fun h13 => ?_) (fun h13 => ?_))))))
            ·refine Qa (Qk (o2 := 1) rfl rfl rfl (Qn rfl rfl (by rfl) ?_))
             refine Qk (o2 := 2) rfl rfl rfl (QV rfl rfl rfl (WpL.nil (Qa (Qc rfl rfl (QA rfl rfl rfl (Qo (by omega) (by omega)) ?_)))))
             refine Qd rfl rfl (WpL.nil (Qq (⟨i + 1, at2, W, t.n, M⟩ : PaX) ?_ ?_ (by ((repeat (first | exact Top.refl | refine Top.push rfl ?_)); done)) (by repeat (first | exact FrLe.nil | refine FrLe.cons rfl ?_)) ?_))
             ·have e : i = 1 := by omega
              subst e
              exact ⟨hat2, by simp only; omega, fun hb => ⟨by simp only; omega, by exact (hbk hb).2⟩, hpn⟩
             ·simp only; omega
             ·exact Take.ent' (by repeat' constructor)
            ·refine Qa (Qk (o2 := 1) rfl rfl rfl (Qn rfl rfl (by rfl) ?_))
             refine Qk (o2 := 3) rfl rfl rfl (QV rfl rfl rfl (WpL.nil (Qa (Qc rfl rfl (QA rfl rfl rfl (Qo (by omega) (by omega)) ?_)))))
             refine Qd rfl rfl (WpL.nil (Qq (⟨i + 1, at2, W, H, t.n⟩ : PaX) ?_ ?_ (by ((repeat (first | exact Top.refl | refine Top.push rfl ?_)); done)) (by repeat (first | exact FrLe.nil | refine FrLe.cons rfl ?_)) ?_))
             ·have e : i = 2 := by omega
              subst e
              exact ⟨hat2, by simp only; omega, fun hb => ⟨by simp only; omega, by (exfalso; have := (hbk hb).1; omega)⟩, hpn⟩
             ·simp only; omega
             ·exact Take.ent' (by repeat' constructor)
      ·have hg8 := of_decide_eq_false hg8
       refine Qe rfl rfl rfl (by decide) (Qe rfl rfl rfl (by decide) (Qe rfl rfl rfl (by decide) (Qt rfl rfl rfl (WpL.nil (QW rfl (QP (Qb (Qb (Qa (Qc rfl rfl (QH rfl rfl rfl (WpL.nil ?_))))))))))))
       refine Qj rfl (fun h9 => ?_) (fun h9 => ?_)
       ·have hr : Xh (Q6 (QS a) (QT b) (QU d) i) X5 ((QJ s).drop at_) at_ = (t, k, (at2 : Int)) := by
         by_cases hk0 : k = 0
         ·rw [hnr, if_pos hk0, show (QJ s).drop at2 = [] from List.drop_of_length_le (by rw [QZ]; omega), hk0]; rfl
         ·rw [hnr, if_neg hk0]
        have hps := XS hpi hi (fun hb => ⟨by omega, (hbk hb).2⟩) hr
        refine Qb (Qa ?_)
        refine Xu rfl rfl ?_
        refine Qc rfl rfl ?_
        refine QC rfl rfl rfl (by rfl) rfl ?_
        refine Qd rfl rfl (Qd rfl rfl (WpL.nil (Qh ?_)))
        apply RetQ.mk
        ·exact (QL rfl rfl (by rfl) rfl rfl)
        ·exact ⟨0, 0, 0, 0, _, 6, by rw [hps.1 h9, QZ, show s.size = at2 by omega], rfl, rfl⟩
        ·exact Ent.nil _
       ·have hr : Xh (Q6 (QS a) (QT b) (QU d) i) X5 ((QJ s).drop at_) at_ = (t, k, (at2 : Int)) := by
         by_cases hk0 : k = 0
         ·rw [hnr, if_pos hk0, show (QJ s).drop at2 = [] from List.drop_of_length_le (by rw [QZ]; omega), hk0]; rfl
         ·rw [hnr, if_neg hk0]
        have hps := XS hpi hi (fun hb => ⟨by omega, (hbk hb).2⟩) hr
        refine Wp.skip (Qb (Qb (Qa (Qc rfl rfl (QH rfl rfl rfl (WpL.nil (Qj rfl (fun h10 => ?_) (fun h10 => ?_))))))))
        ·refine Qb ?_
         apply Xe (fB := [QK gN [.int .i64 t.ph, .int .i64 t.n, .int .i64 (Q6 (QS a) (QT b) (QU d) i), .int .i64 t.e] 170]) mixed [(4, false)] (by kernel_rfl)
         apply Q7 [⟨0, 107, _, [], false⟩, ⟨1, 108, _, [], true⟩, ⟨2, 109, _, [], true⟩, ⟨3, 110, _, [2], true⟩] [] [0] [5, 6, 108, 109, 110] (.inl ⟨_, by repeat' constructor⟩) rfl rfl rfl (by kernel_rfl) rfl rfl rfl
         ·refine AllF.cons rfl rfl rfl rfl ?_ ?_
          ·refine Xu rfl rfl ?_
           exact Qm rfl
          refine QD rfl rfl rfl rfl ?_ ?_
          ·exact Qc rfl rfl (Qm rfl)
          refine QD rfl rfl rfl rfl ?_ ?_
          ·exact Qk (o2 := 3) rfl rfl rfl (Qm rfl)
          refine QD rfl rfl rfl rfl ?_ ?_
          ·refine Qn rfl rfl (by rfl) ?_
           exact Qm rfl
          exact AllF.nil
         ·refine QC rfl rfl rfl (by rfl) rfl ?_
          refine WpL.nil ⟨rfl, rfl, ?_⟩
          apply GoR.nil [⟨5, 5, _, [0, 1, 4], false⟩, ⟨6, 6, _, [0, 1, 2, 3, 4, 5], false⟩] (.inl ⟨_, by repeat' constructor⟩) rfl rfl
          ·refine AllF.cons rfl rfl rfl rfl ?_ ?_
           ·exact Qd rfl rfl (Qm rfl)
           refine AllF.cons rfl rfl rfl rfl ?_ ?_
           ·exact Qd rfl rfl (Qm rfl)
           exact AllF.nil
          ·refine Qh ?_
           apply RetQ.mk
           ·exact (QL rfl rfl (by rfl) rfl rfl)
           ·exact ⟨0, 0, 0, 0, _, _, by rw [hps.2.1 h10], rfl, rfl⟩
           ·exact Ent.nil _
        ·refine Wp.skip (Qb (Qb (Qa (Qk (o2 := 1) rfl rfl rfl (Qn rfl rfl (by rfl) ?_)))))
         refine QH rfl rfl rfl (WpL.nil (Qj rfl (fun h11 => ?_) (fun h11 => ?_)))
         ·refine Qb (Qa ?_)
          refine Xu rfl rfl ?_
          refine Qc rfl rfl ?_
          refine QC rfl rfl rfl (by rfl) rfl ?_
          refine Qd rfl rfl (Qd rfl rfl (WpL.nil (Qh ?_)))
          apply RetQ.mk
          ·exact (QL rfl rfl (by rfl) rfl rfl)
          ·exact ⟨0, 0, 0, 0, _, 4, by rw [hps.2.2.1 h9 h10 h11], rfl, rfl⟩
          ·exact Ent.nil _
         ·have hpn := hps.2.2.2 h9 h10 h11
          rw [Int.toNat_natCast] at hpn
          refine Wp.skip (Qb (Qa (Qc rfl rfl (WpL.nil (Wp.block ?_)))))
          refine Qb (Qa (QH rfl rfl rfl (Qd rfl rfl (WpL.nil (Qj rfl (fun h12 => ?_) (fun h12 => ?_))))))
          ·refine Qa (Qk (o2 := 1) rfl rfl rfl (Qn rfl rfl (by rfl) ?_))
           refine Qk (o2 := 1) rfl rfl rfl (QV rfl rfl rfl (WpL.nil (Qa (Qc rfl rfl (QA rfl rfl rfl (Qo (by omega) (by omega)) ?_)))))
           refine Qd rfl rfl (WpL.nil (Qq (⟨i + 1, at2, t.n, H, M⟩ : PaX) ?_ ?_ (by ((repeat (first | exact Top.refl | refine Top.push rfl ?_)); done)) (by repeat (first | exact FrLe.nil | refine FrLe.cons rfl ?_)) ?_))
           ·have e : i = 0 := by omega
            subst e
            exact ⟨hat2, by simp only; omega, fun hb => ⟨by simp only; omega, by exact (hbk hb).2⟩, hpn⟩
           ·simp only; omega
           ·exact Take.ent' (by repeat' constructor)
          ·refine Qb (Qa (QH rfl rfl rfl (Qd rfl rfl (WpL.nil (Qj rfl (fun h13 => ?_) (fun h13 => ?_))))))
           ·refine Qa (Qk (o2 := 1) rfl rfl rfl (Qn rfl rfl (by rfl) ?_))
            refine Qk (o2 := 2) rfl rfl rfl (QV rfl rfl rfl (WpL.nil (Qa (Qc rfl rfl (QA rfl rfl rfl (Qo (by omega) (by omega)) ?_)))))
            refine Qd rfl rfl (WpL.nil (Qq (⟨i + 1, at2, W, t.n, M⟩ : PaX) ?_ ?_ (by ((repeat (first | exact Top.refl | refine Top.push rfl ?_)); done)) (by repeat (first | exact FrLe.nil | refine FrLe.cons rfl ?_)) ?_))
            ·have e : i = 1 := by omega
             subst e
             exact ⟨hat2, by simp only; omega, fun hb => ⟨by simp only; omega, by exact (hbk hb).2⟩, hpn⟩
            ·simp only; omega
            ·exact Take.ent' (by repeat' constructor)
           ·refine Qa (Qk (o2 := 1) rfl rfl rfl (Qn rfl rfl (by rfl) ?_))
            refine Qk (o2 := 3) rfl rfl rfl (QV rfl rfl rfl (WpL.nil (Qa (Qc rfl rfl (QA rfl rfl rfl (Qo (by omega) (by omega)) ?_)))))
            refine Qd rfl rfl (WpL.nil (Qq (⟨i + 1, at2, W, H, t.n⟩ : PaX) ?_ ?_ (by ((repeat (first | exact Top.refl | refine Top.push rfl ?_)); done)) (by repeat (first | exact FrLe.nil | refine FrLe.cons rfl ?_)) ?_))
            ·have e : i = 2 := by omega
             subst e
             exact ⟨hat2, by simp only; omega, fun hb => ⟨by simp only; omega, by (exfalso; have := (hbk hb).1; omega)⟩, hpn⟩
            ·simp only; omega
            ·exact Take.ent' (by repeat' constructor)
    ·refine QP (Qb (Qa ?_))
     refine Qw (vs := [_, _, _, _]) rfl rfl rfl (by rfl) ?_
     refine Qc rfl rfl ?_
     refine QC rfl rfl rfl (by rfl) rfl ?_
     refine Qd rfl rfl (Qd rfl rfl (WpL.nil (Qh ?_)))
     apply RetQ.mk
     ·exact (QL rfl rfl (by rfl) rfl rfl)
     ·exact ⟨K, W, H, M, _, 0, by unfold parI at hpi; rw [hpi, if_pos (by exact .inr ⟨by have := (hbk h4).1; omega, h4⟩)], rfl, rfl⟩
     ·exact Ent.nil _
  ·refine Wp.skip (Qb (Qa ?_))
   refine Qw (vs := [_, _, _]) rfl rfl rfl (by rfl) ?_
   refine Qi rfl rfl (by repeat' constructor) (ZH _ _ _) ?_
   rintro _ _ ⟨gl, rfl, rfl⟩
   simp only [Qs]
   refine Qd rfl rfl (WpL.nil (Qb (Qa (Qd rfl rfl (WpL.nil (Qb (Qb (Qa (Qd rfl rfl (WpL.nil (Wp.block ?_)))))))))))
   refine Wp.loopD (σ := PaX) (fun x => x.at_ ≤ s.size ∧ x.i ≤ 3 ∧ (X3 K → x.i ≤ 2 ∧ x.M = 1) ∧ parI (QS a) (QT b) (QU d) K (QJ s) x.i x.at_ x.W x.H x.M) [5, 6, 10, 11, 12, 13, 14, 15, 71, 72, 73, 74, 75, 76, 77, 78, 79, 80, 81, 82, 83, 84, 85, 86, 87, 88, 89, 90, 91, 92, 93, 94, 95, 96, 97, 98, 99, 100, 101, 102, 103, 104, 105, 106, 107, 108, 109, 110, 111, 112, 113, 114, 115, 116, 117, 118, 119, 120, 121, 122, 123, 124, 125, 126, 127, 128, 129] (fun x => [(11, .int .i64 (x.i : Int)), (10, .int .i64 (x.at_ : Int))]) (fun x => [QK gH [.int .i64 K, .int .i64 x.W, .int .i64 x.H, .int .i64 x.M] 113, QK gl [.int .i64 (QS a), .int .i64 (QT b), .int .i64 (QU d)] 3, QK gO [.int .i64 0, .int .i64 0, .int .i64 0, .int .i64 0] 113]) (fun x => 3 - x.i) ⟨0, 2, 0, 0, (if X3 K then 1 else 0)⟩ ?_ (by repeat (first | exact FrLe.nil | refine FrLe.cons rfl ?_)) ?_ ?_
   ·exact ⟨by simp only; omega, by simp, fun hb => ⟨by simp, by simp only; rw [if_pos hb]⟩, hpar _⟩
   ·(rw [show (if X3 K then (1 : Int) else 0) = 0 from if_neg h4]; exact Take.ent' (by repeat' constructor))
   ·rintro ⟨i, at_, W, H, M⟩ ⟨hat, hi3, hbk, hpi⟩
    dsimp only at hat hi3 hbk hpi ⊢
    refine Qb (Qb (Qa (Qc rfl rfl (Qc rfl rfl (Q8 rfl rfl rfl (WpL.nil (Qj rfl (fun h6 => ?_) (fun h6 => ?_))))))))
    ·have hi : i < 3 := by omega
     refine Wp.skip (Qb (Wp.block ?_))
     refine Qb (Qa (Qc rfl rfl (Qc rfl rfl (Xg i rfl rfl rfl (RdsL.blk (o := 0) (xs := [.int .i64 (QS a), .int .i64 (QT b), .int .i64 (QU d)]) rfl) (by exact Take.ent' (by repeat' constructor)) rfl (by omega) (by simp only [List.length_cons, List.length_nil]; omega) ?_))))
     refine Xk rfl rfl (RdsL.blk (o := 0) (xs := [.int .i64 (QS a), .int .i64 (QT b), .int .i64 (QU d)]) rfl) (by exact Take.ent' (by repeat' constructor)) (lsel_lim a b d i hi) ?_
     refine Qi rfl rfl (by repeat' constructor) (Z6 _) ?_
     rintro _ _ ⟨rfl, rfl⟩
     simp only [Qs]
     refine XH rfl ?_
     intro gN
     refine QC rfl rfl rfl (by rfl) rfl ?_
     refine WpL.nil (Qb (Qa (Qd rfl rfl (WpL.nil (Qb (Wp.block ?_))))))
     refine Wp.loopD (σ := PbX) (fun y => at_ ≤ y.at_ ∧ y.at_ ≤ s.size ∧ (y.k = 0 → YI (Q6 (QS a) (QT b) (QU d) i) y.t) ∧ Xh (Q6 (QS a) (QT b) (QU d) i) X5 ((QJ s).drop at_) at_ = (if y.k = 0 then Xh (Q6 (QS a) (QT b) (QU d) i) y.t ((QJ s).drop y.at_) y.at_ else (y.t, y.k, (y.at_ : Int)))) [10, 13, 14, 15, 81, 82, 83, 84, 85, 86, 87, 88, 89, 90, 91, 92, 93, 94, 95, 96, 97, 98, 99, 100] (fun y => [(13, .int .i64 y.k), (10, .int .i64 (y.at_ : Int))]) (fun y => [QK gN [.int .i64 y.t.ph, .int .i64 y.t.n, .int .i64 (Q6 (QS a) (QT b) (QU d) i), .int .i64 y.t.e] 170, QK gH [.int .i64 K, .int .i64 W, .int .i64 H, .int .i64 M] 113, QK gl [.int .i64 (QS a), .int .i64 (QT b), .int .i64 (QU d)] 3, QK gO [.int .i64 0, .int .i64 0, .int .i64 0, .int .i64 0] 113]) (fun y => s.size - y.at_) ⟨0, at_, X5⟩ ?_ (by repeat (first | exact FrLe.nil | refine FrLe.cons rfl ?_)) ?_ ?_
     ·exact ⟨Nat.le_refl _, hat, fun _ => (show YI _ X5 by unfold YI X5; dsimp only; have := (Y3 a b d i).1; omega), (if_pos rfl).symm⟩
     ·exact Ent.refl _
     ·rintro ⟨k, at2, t⟩ ⟨ha2, hat2, htk, hnr⟩
      dsimp only at ha2 hat2 htk hnr ⊢
      refine Qb (Qb (Qa (Qc rfl rfl (QH rfl rfl rfl (Qc rfl rfl (QN rfl rfl rfl (fun hg9 => ?_) (fun hg9 => ?_)))))))
      ·have hg9 := of_decide_eq_true hg9
       refine Qc rfl rfl (Qf rfl rfl (Qc rfl rfl (Qf rfl rfl (Xy rfl Tryz.underlying9 rfl (Qf rfl rfl (Q8 rfl rfl rfl (Qr rfl rfl rfl (WpL.nil (Qj rfl (fun h8 => ?_) (fun h8 => ?_))))))))))
       ·have hlt : at2 < s.size := by omega
        obtain ⟨cc, hcc⟩ : ∃ cc : Int, cc = ((s[at2]'hlt).toNat : Int) := ⟨_, rfl⟩
        obtain rfl : k = 0 := by assumption
        have htk2 := htk rfl
        rw [if_pos rfl] at hnr
        have hdr := XD hlt
        rw [← hcc] at hdr
        rw [hdr] at hnr
        have hst := Z3 hnr
        refine Wp.skip (Wp.block ?_)
        refine Qb ?_
        apply YE (fB := []) mixed 8 [(8, true)] rfl rfl (by kernel_rfl)
        apply YZ [⟨0, 90, _, [], false⟩, ⟨1, 91, _, [], false⟩, ⟨2, 92, _, [], false⟩, ⟨3, 93, _, [1, 2], false⟩, ⟨4, 94, _, [0, 3], false⟩, ⟨5, 89, _, [4], false⟩, ⟨6, 95, _, [5], false⟩, ⟨7, 96, _, [5], true⟩] [] [0, 1, 2, 3, 4, 5, 6] [15, 96] (.inl ⟨_, .nil⟩) rfl rfl rfl (by kernel_rfl) rfl rfl rfl rfl
        ·refine AllF.cons rfl rfl rfl rfl ?_ ?_
         ·refine Qw (vs := [_, _, _, _]) rfl rfl rfl (by rfl) ?_
          exact Qm rfl
         refine AllF.cons rfl rfl rfl rfl ?_ ?_
         ·exact Qc rfl rfl (Qm rfl)
         refine AllF.cons rfl rfl rfl rfl ?_ ?_
         ·exact Qc rfl rfl (Qm rfl)
         refine AllF.cons rfl rfl rfl rfl ?_ ?_
         ·refine Yo rfl Tryz.underlying9 rfl rfl (by omega) (by omega) ?_
          change WpL _ _ _ _ _ _ ((93, Value.int .u8 ((s[at2]'hlt).toNat : Int)) :: _) _
          rw [← hcc]
          exact Qm rfl
         refine AllF.cons rfl rfl rfl rfl ?_ ?_
         ·refine Qi rfl rfl (by repeat' constructor) (Z7 t.ph t.n _ t.e cc (by rw [hcc]; omega) (by rw [hcc]; exact u8_lt _) htk2.2.2.1 (Y3 a b d i).1 (Y3 a b d i).2 ⟨htk2.1, by have := htk2.2.1; omega⟩) ?_
          rintro _ _ ⟨rfl, rfl⟩
          simp only [Qs]
          exact WpL.nil ⟨rfl, rfl, rfl, by exact Ent.refl _⟩
         refine AllF.cons rfl rfl rfl rfl ?_ ?_
         ·exact Qc rfl rfl (Qm rfl)
         refine AllF.cons rfl rfl rfl rfl ?_ ?_
         ·exact QB rfl rfl rfl (Qm rfl)
         refine QD rfl rfl rfl rfl ?_ ?_
         ·exact QB rfl rfl rfl (Qm rfl)
         exact AllF.nil
        ·intro gS
         refine QC rfl rfl rfl (by rfl) rfl ?_
         refine WpL.nil ⟨rfl, rfl, ?_⟩
         apply GoR.nil [⟨10, 15, _, [0, 1, 2, 3, 4, 5, 6, 7, 8, 9], false⟩] (.inl ⟨_, .nil⟩) rfl rfl
         ·refine AllF.cons rfl rfl rfl rfl ?_ ?_
          ·exact Qd rfl rfl (Qm rfl)
          exact AllF.nil
         ·refine Qb (Qa ?_)
          refine Qw (vs := [_, _, _, _]) rfl rfl rfl (by rfl) ?_
          refine QC rfl rfl rfl (by rfl) rfl ?_
          refine WpL.nil (Qb (Qa (Qc rfl rfl (Qd rfl rfl (WpL.nil (Qa (Qc rfl rfl (QA rfl rfl rfl (Qo (by omega) (by omega)) ?_))))))))
          refine Qd rfl rfl (WpL.nil (Qq (Q := fun _ _ _ _ => False) (⟨(QG (Q6 (QS a) (QT b) (QU d) i) t cc).2, at2 + 1, (QG (Q6 (QS a) (QT b) (QU d) i) t cc).1⟩ : PbX) ?_ ?_ (by ((repeat (first | exact Top.refl | refine Top.push rfl ?_)); done)) (by repeat (first | exact FrLe.nil | refine FrLe.cons rfl ?_)) ?_))
          ·exact ⟨by simp only; omega, by simp only; omega, fun q => by rcases YS (c := cc) htk2 with z | z | z; exact z.2; exact absurd q (by simp only; omega); exact absurd q (by simp only; omega), hst⟩
          ·simp only; omega
          ·exact Take.ent' (by repeat' constructor)
       ·refine QP (Qb (Qb (Qa (Qc rfl rfl (QH rfl rfl rfl (WpL.nil (Qj rfl (fun h9 => ?_) (fun h9 => ?_))))))))
        ·have hr : Xh (Q6 (QS a) (QT b) (QU d) i) X5 ((QJ s).drop at_) at_ = (t, k, (at2 : Int)) := by
          by_cases hk0 : k = 0
          ·rw [hnr, if_pos hk0, show (QJ s).drop at2 = [] from List.drop_of_length_le (by rw [QZ]; omega), hk0]; rfl
          ·rw [hnr, if_neg hk0]
         have hps := XS hpi hi (fun hb => ⟨by exact absurd hb h4, (hbk hb).2⟩) hr
         refine Qb (Qa ?_)
         refine Xu rfl rfl ?_
         refine Qc rfl rfl ?_
         refine QC rfl rfl rfl (by rfl) rfl ?_
         refine Qd rfl rfl (Qd rfl rfl (WpL.nil (Qh ?_)))
         apply RetQ.mk
         ·exact (QL rfl rfl (by rfl) rfl rfl)
         ·exact ⟨0, 0, 0, 0, _, 6, by rw [hps.1 h9, QZ, show s.size = at2 by omega], rfl, rfl⟩
         ·exact Ent.nil _
        ·have hr : Xh (Q6 (QS a) (QT b) (QU d) i) X5 ((QJ s).drop at_) at_ = (t, k, (at2 : Int)) := by
          by_cases hk0 : k = 0
          ·rw [hnr, if_pos hk0, show (QJ s).drop at2 = [] from List.drop_of_length_le (by rw [QZ]; omega), hk0]; rfl
          ·rw [hnr, if_neg hk0]
         have hps := XS hpi hi (fun hb => ⟨by omega, (hbk hb).2⟩) hr
         refine Wp.skip (Qb (Qb (Qa (Qc rfl rfl (QH rfl rfl rfl (WpL.nil (Qj rfl (fun h10 => ?_) (fun h10 => ?_))))))))
         ·refine Qb ?_
          apply Xe (fB := [QK gN [.int .i64 t.ph, .int .i64 t.n, .int .i64 (Q6 (QS a) (QT b) (QU d) i), .int .i64 t.e] 170]) mixed [(4, false)] (by kernel_rfl)
          apply Q7 [⟨0, 107, _, [], false⟩, ⟨1, 108, _, [], true⟩, ⟨2, 109, _, [], true⟩, ⟨3, 110, _, [2], true⟩] [] [0] [5, 6, 108, 109, 110] (.inl ⟨_, by repeat' constructor⟩) rfl rfl rfl (by kernel_rfl) rfl rfl rfl
          ·refine AllF.cons rfl rfl rfl rfl ?_ ?_
           ·refine Xu rfl rfl ?_
            exact Qm rfl
           refine QD rfl rfl rfl rfl ?_ ?_
           ·exact Qc rfl rfl (Qm rfl)
           refine QD rfl rfl rfl rfl ?_ ?_
           ·exact Qk (o2 := 3) rfl rfl rfl (Qm rfl)
           refine QD rfl rfl rfl rfl ?_ ?_
           ·refine Qn rfl rfl (by rfl) ?_
            exact Qm rfl
           exact AllF.nil
          ·refine QC rfl rfl rfl (by rfl) rfl ?_
           refine WpL.nil ⟨rfl, rfl, ?_⟩
           apply GoR.nil [⟨5, 5, _, [0, 1, 4], false⟩, ⟨6, 6, _, [0, 1, 2, 3, 4, 5], false⟩] (.inl ⟨_, by repeat' constructor⟩) rfl rfl
           ·refine AllF.cons rfl rfl rfl rfl ?_ ?_
            ·exact Qd rfl rfl (Qm rfl)
            refine AllF.cons rfl rfl rfl rfl ?_ ?_
            ·exact Qd rfl rfl (Qm rfl)
            exact AllF.nil
           ·refine Qh ?_
            apply RetQ.mk
            ·exact (QL rfl rfl (by rfl) rfl rfl)
            ·exact ⟨0, 0, 0, 0, _, _, by rw [hps.2.1 h10], rfl, rfl⟩
            ·exact Ent.nil _
         ·refine Wp.skip (Qb (Qb (Qa (Qk (o2 := 1) rfl rfl rfl (Qn rfl rfl (by rfl) ?_)))))
          refine QH rfl rfl rfl (WpL.nil (Qj rfl (fun h11 => ?_) (fun h11 => ?_)))
          ·refine Qb (Qa ?_)
           refine Xu rfl rfl ?_
           refine Qc rfl rfl ?_
           refine QC rfl rfl rfl (by rfl) rfl ?_
           refine Qd rfl rfl (Qd rfl rfl (WpL.nil (Qh ?_)))
           apply RetQ.mk
           ·exact (QL rfl rfl (by rfl) rfl rfl)
           ·exact ⟨0, 0, 0, 0, _, 4, by rw [hps.2.2.1 h9 h10 h11], rfl, rfl⟩
           ·exact Ent.nil _
          ·have hpn := hps.2.2.2 h9 h10 h11
           rw [Int.toNat_natCast] at hpn
           refine Wp.skip (Qb (Qa (Qc rfl rfl (WpL.nil (Wp.block ?_)))))
           refine Qb (Qa (QH rfl rfl rfl (Qd rfl rfl (WpL.nil (Qj rfl (fun h12 => ?_) (fun h12 => ?_))))))
           ·refine Qa (Qk (o2 := 1) rfl rfl rfl (Qn rfl rfl (by rfl) ?_))
            refine Qk (o2 := 1) rfl rfl rfl (QV rfl rfl rfl (WpL.nil (Qa (Qc rfl rfl (QA rfl rfl rfl (Qo (by omega) (by omega)) ?_)))))
            refine Qd rfl rfl (WpL.nil (Qq (⟨i + 1, at2, t.n, H, M⟩ : PaX) ?_ ?_ (by ((repeat (first | exact Top.refl | refine Top.push rfl ?_)); done)) (by repeat (first | exact FrLe.nil | refine FrLe.cons rfl ?_)) ?_))
            ·have e : i = 0 := by omega
             subst e
             exact ⟨hat2, by simp only; omega, fun hb => ⟨by simp only; omega, by exact (hbk hb).2⟩, hpn⟩
            ·simp only; omega
            ·exact Take.ent' (by repeat' constructor)
           ·refine Qb (Qa (QH rfl rfl rfl (Qd rfl rfl (WpL.nil (Qj rfl (fun h13 => ?_) (fun h13 => ?_))))))
            ·refine Qa (Qk (o2 := 1) rfl rfl rfl (Qn rfl rfl (by rfl) ?_))
             refine Qk (o2 := 2) rfl rfl rfl (QV rfl rfl rfl (WpL.nil (Qa (Qc rfl rfl (QA rfl rfl rfl (Qo (by omega) (by omega)) ?_)))))
             refine Qd rfl rfl (WpL.nil (Qq (⟨i + 1, at2, W, t.n, M⟩ : PaX) ?_ ?_ (by ((repeat (first | exact Top.refl | refine Top.push rfl ?_)); done)) (by repeat (first | exact FrLe.nil | refine FrLe.cons rfl ?_)) ?_))
             ·have e : i = 1 := by omega
              subst e
              exact ⟨hat2, by simp only; omega, fun hb => ⟨by simp only; omega, by exact (hbk hb).2⟩, hpn⟩
             ·simp only; omega
             ·exact Take.ent' (by repeat' constructor)
            ·refine Qa (Qk (o2 := 1) rfl rfl rfl (Qn rfl rfl (by rfl) ?_))
             refine Qk (o2 := 3) rfl rfl rfl (QV rfl rfl rfl (WpL.nil (Qa (Qc rfl rfl (QA rfl rfl rfl (Qo (by omega) (by omega)) ?_)))))
             refine Qd rfl rfl (WpL.nil (Qq (⟨i + 1, at2, W, H, t.n⟩ : PaX) ?_ ?_ (by ((repeat (first | exact Top.refl | refine Top.push rfl ?_)); done)) (by repeat (first | exact FrLe.nil | refine FrLe.cons rfl ?_)) ?_))
             ·have e : i = 2 := by omega
              subst e
              exact ⟨hat2, by simp only; omega, fun hb => ⟨by simp only; omega, by exact absurd hb h4⟩, hpn⟩
             ·simp only; omega
             ·exact Take.ent' (by repeat' constructor)
      ·have hg9 := of_decide_eq_false hg9
       refine Qe rfl rfl rfl (by decide) (Qe rfl rfl rfl (by decide) (Qe rfl rfl rfl (by decide) (Qt rfl rfl rfl (WpL.nil (QW rfl (QP (Qb (Qb (Qa (Qc rfl rfl (QH rfl rfl rfl (WpL.nil ?_))))))))))))
       refine Qj rfl (fun h9 => ?_) (fun h9 => ?_)
       ·have hr : Xh (Q6 (QS a) (QT b) (QU d) i) X5 ((QJ s).drop at_) at_ = (t, k, (at2 : Int)) := by
         by_cases hk0 : k = 0
         ·rw [hnr, if_pos hk0, show (QJ s).drop at2 = [] from List.drop_of_length_le (by rw [QZ]; omega), hk0]; rfl
         ·rw [hnr, if_neg hk0]
        have hps := XS hpi hi (fun hb => ⟨by omega, (hbk hb).2⟩) hr
        refine Qb (Qa ?_)
        refine Xu rfl rfl ?_
        refine Qc rfl rfl ?_
        refine QC rfl rfl rfl (by rfl) rfl ?_
        refine Qd rfl rfl (Qd rfl rfl (WpL.nil (Qh ?_)))
        apply RetQ.mk
        ·exact (QL rfl rfl (by rfl) rfl rfl)
        ·exact ⟨0, 0, 0, 0, _, 6, by rw [hps.1 h9, QZ, show s.size = at2 by omega], rfl, rfl⟩
        ·exact Ent.nil _
       ·have hr : Xh (Q6 (QS a) (QT b) (QU d) i) X5 ((QJ s).drop at_) at_ = (t, k, (at2 : Int)) := by
         by_cases hk0 : k = 0
         ·rw [hnr, if_pos hk0, show (QJ s).drop at2 = [] from List.drop_of_length_le (by rw [QZ]; omega), hk0]; rfl
         ·rw [hnr, if_neg hk0]
        have hps := XS hpi hi (fun hb => ⟨by exact absurd hb h4, (hbk hb).2⟩) hr
        refine Wp.skip (Qb (Qb (Qa (Qc rfl rfl (QH rfl rfl rfl (WpL.nil (Qj rfl (fun h10 => ?_) (fun h10 => ?_))))))))
        ·refine Qb ?_
         apply Xe (fB := [QK gN [.int .i64 t.ph, .int .i64 t.n, .int .i64 (Q6 (QS a) (QT b) (QU d) i), .int .i64 t.e] 170]) mixed [(4, false)] (by kernel_rfl)
         apply Q7 [⟨0, 107, _, [], false⟩, ⟨1, 108, _, [], true⟩, ⟨2, 109, _, [], true⟩, ⟨3, 110, _, [2], true⟩] [] [0] [5, 6, 108, 109, 110] (.inl ⟨_, by repeat' constructor⟩) rfl rfl rfl (by kernel_rfl) rfl rfl rfl
         ·refine AllF.cons rfl rfl rfl rfl ?_ ?_
          ·refine Xu rfl rfl ?_
           exact Qm rfl
          refine QD rfl rfl rfl rfl ?_ ?_
          ·exact Qc rfl rfl (Qm rfl)
          refine QD rfl rfl rfl rfl ?_ ?_
          ·exact Qk (o2 := 3) rfl rfl rfl (Qm rfl)
          refine QD rfl rfl rfl rfl ?_ ?_
          ·refine Qn rfl rfl (by rfl) ?_
           exact Qm rfl
          exact AllF.nil
         ·refine QC rfl rfl rfl (by rfl) rfl ?_
          refine WpL.nil ⟨rfl, rfl, ?_⟩
          apply GoR.nil [⟨5, 5, _, [0, 1, 4], false⟩, ⟨6, 6, _, [0, 1, 2, 3, 4, 5], false⟩] (.inl ⟨_, by repeat' constructor⟩) rfl rfl
          ·refine AllF.cons rfl rfl rfl rfl ?_ ?_
           ·exact Qd rfl rfl (Qm rfl)
           refine AllF.cons rfl rfl rfl rfl ?_ ?_
           ·exact Qd rfl rfl (Qm rfl)
           exact AllF.nil
          ·refine Qh ?_
           apply RetQ.mk
           ·exact (QL rfl rfl (by rfl) rfl rfl)
           ·exact ⟨0, 0, 0, 0, _, _, by rw [hps.2.1 h10], rfl, rfl⟩
           ·exact Ent.nil _
        ·refine Wp.skip (Qb (Qb (Qa (Qk (o2 := 1) rfl rfl rfl (Qn rfl rfl (by rfl) ?_)))))
         refine QH rfl rfl rfl (WpL.nil (Qj rfl (fun h11 => ?_) (fun h11 => ?_)))
         ·refine Qb (Qa ?_)
          refine Xu rfl rfl ?_
          refine Qc rfl rfl ?_
          refine QC rfl rfl rfl (by rfl) rfl ?_
          refine Qd rfl rfl (Qd rfl rfl (WpL.nil (Qh ?_)))
          apply RetQ.mk
          ·exact (QL rfl rfl (by rfl) rfl rfl)
          ·exact ⟨0, 0, 0, 0, _, 4, by rw [hps.2.2.1 h9 h10 h11], rfl, rfl⟩
          ·exact Ent.nil _
         ·have hpn := hps.2.2.2 h9 h10 h11
          rw [Int.toNat_natCast] at hpn
          refine Wp.skip (Qb (Qa (Qc rfl rfl (WpL.nil (Wp.block ?_)))))
          refine Qb (Qa (QH rfl rfl rfl (Qd rfl rfl (WpL.nil (Qj rfl (fun h12 => ?_) (fun h12 => ?_))))))
          ·refine Qa (Qk (o2 := 1) rfl rfl rfl (Qn rfl rfl (by rfl) ?_))
           refine Qk (o2 := 1) rfl rfl rfl (QV rfl rfl rfl (WpL.nil (Qa (Qc rfl rfl (QA rfl rfl rfl (Qo (by omega) (by omega)) ?_)))))
           refine Qd rfl rfl (WpL.nil (Qq (⟨i + 1, at2, t.n, H, M⟩ : PaX) ?_ ?_ (by ((repeat (first | exact Top.refl | refine Top.push rfl ?_)); done)) (by repeat (first | exact FrLe.nil | refine FrLe.cons rfl ?_)) ?_))
           ·have e : i = 0 := by omega
            subst e
            exact ⟨hat2, by simp only; omega, fun hb => ⟨by simp only; omega, by exact (hbk hb).2⟩, hpn⟩
           ·simp only; omega
           ·exact Take.ent' (by repeat' constructor)
          ·refine Qb (Qa (QH rfl rfl rfl (Qd rfl rfl (WpL.nil (Qj rfl (fun h13 => ?_) (fun h13 => ?_))))))
           ·refine Qa (Qk (o2 := 1) rfl rfl rfl (Qn rfl rfl (by rfl) ?_))
            refine Qk (o2 := 2) rfl rfl rfl (QV rfl rfl rfl (WpL.nil (Qa (Qc rfl rfl (QA rfl rfl rfl (Qo (by omega) (by omega)) ?_)))))
            refine Qd rfl rfl (WpL.nil (Qq (⟨i + 1, at2, W, t.n, M⟩ : PaX) ?_ ?_ (by ((repeat (first | exact Top.refl | refine Top.push rfl ?_)); done)) (by repeat (first | exact FrLe.nil | refine FrLe.cons rfl ?_)) ?_))
            ·have e : i = 1 := by omega
             subst e
             exact ⟨hat2, by simp only; omega, fun hb => ⟨by simp only; omega, by exact (hbk hb).2⟩, hpn⟩
            ·simp only; omega
            ·exact Take.ent' (by repeat' constructor)
           ·refine Qa (Qk (o2 := 1) rfl rfl rfl (Qn rfl rfl (by rfl) ?_))
            refine Qk (o2 := 3) rfl rfl rfl (QV rfl rfl rfl (WpL.nil (Qa (Qc rfl rfl (QA rfl rfl rfl (Qo (by omega) (by omega)) ?_)))))
            refine Qd rfl rfl (WpL.nil (Qq (⟨i + 1, at2, W, H, t.n⟩ : PaX) ?_ ?_ (by ((repeat (first | exact Top.refl | refine Top.push rfl ?_)); done)) (by repeat (first | exact FrLe.nil | refine FrLe.cons rfl ?_)) ?_))
            ·have e : i = 2 := by omega
             subst e
             exact ⟨hat2, by simp only; omega, fun hb => ⟨by simp only; exact absurd hb h4, by exact absurd hb h4⟩, hpn⟩
            ·simp only; omega
            ·exact Take.ent' (by repeat' constructor)
    ·refine QP (Qb (Qa ?_))
     refine Qw (vs := [_, _, _, _]) rfl rfl rfl (by rfl) ?_
     refine Qc rfl rfl ?_
     refine QC rfl rfl rfl (by rfl) rfl ?_
     refine Qd rfl rfl (Qd rfl rfl (WpL.nil (Qh ?_)))
     apply RetQ.mk
     ·exact (QL rfl rfl (by rfl) rfl rfl)
     ·exact ⟨K, W, H, M, _, 0, by unfold parI at hpi; rw [hpi, if_pos (by exact .inl (by omega))], rfl, rfl⟩
     ·exact Ent.nil _


theorem rParse_spec (a b d : Int) (s : ByteArray) (hsz : s.size ≤ 1000000000000) : Fn Tryz.prog 56 #[.string s, .agg #[.int .i64 a, .int .i64 b, .int .i64 d]] [] (fun v l => ∃ K W H M n e, ((K, W, H, M), n, e) = XW (QS a) (QT b) (QU d) (QJ s) ∧ v = .tuple #[.agg #[.int .i64 K, .int .i64 W, .int .i64 H, .int .i64 M], .int .i64 n, .int .i64 e] ∧ l = []) := by
  by_cases h0 : s.size = 0
  · exact rParse_A a b d s h0
  by_cases h80 : ((s[0]'(by omega)).toNat : Int) = 80
  rotate_left
  · exact rParse_B a b d s (by omega) h80
  by_cases h1 : s.size = 1
  · exact rParse_C a b d s h1 h80
  by_cases h1a : ((s[1]'(by omega)).toNat : Int) < 49
  · exact rParse_D a b d s (by omega) h80 (.inl h1a)
  by_cases h1b : ((s[1]'(by omega)).toNat : Int) > 54
  · exact rParse_D a b d s (by omega) h80 (.inr h1b)
  by_cases h2 : s.size = 2
  · exact rParse_E a b d s h2 h80 h1a h1b
  by_cases h35 : ((s[2]'(by omega)).toNat : Int) = 35
  · exact rParse_G a b d s (by omega) h80 h1a h1b (.inr h35) hsz
  cases hb : Xc ((s[2]'(by omega)).toNat : Int) with
  | true => exact rParse_G a b d s (by omega) h80 h1a h1b (.inl hb) hsz
  | false => exact rParse_F a b d s (by omega) h80 h1a h1b h35 hb

end Go.Proofs.YtggamdlpiejbiaaGreat
