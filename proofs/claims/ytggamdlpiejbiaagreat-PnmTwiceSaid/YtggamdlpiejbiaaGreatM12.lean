/- Walks and plain laws, a part of the proof of PnmTwice: every input that the law's guards let in, no condition beside. -/
import Derived.Test.YtggamdlpiejbiaaGreatM11
namespace Go.Proofs.YtggamdlpiejbiaaGreat
open Go.RowKit Go.Shelf

theorem X2 (c : Int) : Fn Tryz.prog 55 #[.int .u8 c] [] (fun v l => v = .bool (Q8 c) ∧ l = []) := by
 refine Qo (vs := [.int .u8 c]) Tryz.func55 rfl Tryz.ntmps55 rfl (Qb (Qa (Qd rfl rfl (WpL.nil (Qb (Qa (Qc rfl rfl (QJ rfl rfl rfl (Qc rfl rfl (QP rfl rfl rfl (fun hg1 => ?_) (fun hg1 => ?_)))))))))))
 ·have hg1 := of_decide_eq_false hg1
  refine Qc rfl rfl (Qf rfl rfl (s_ge rfl rfl rfl (Qf rfl rfl (Qc rfl rfl (QP rfl rfl rfl (fun hg2 => ?_) (fun hg2 => ?_))))))
  ·have hg2 := of_decide_eq_true hg2
   refine Qc rfl rfl (Qf rfl rfl (s_le rfl rfl rfl (Qf rfl rfl (Qr rfl rfl rfl (Qu rfl rfl rfl (Qd rfl rfl (WpL.nil (Qg ?_))))))))
   apply RetQ.mk
   ·exact (Res.one rfl rfl)
   ·exact ⟨congrArg Value.bool (show _ = decide (c = 9 ∨ c = 10 ∨ c = 11 ∨ c = 12 ∨ c = 13 ∨ c = 32) by exact dd (by omega)), rfl⟩
   ·exact Ent.refl _
  ·have hg2 := of_decide_eq_false hg2
   refine Qe rfl rfl rfl (by decide) (Qf rfl rfl (Qu rfl rfl rfl (Qu rfl rfl rfl (Qd rfl rfl (WpL.nil (Qg ?_))))))
   apply RetQ.mk
   ·exact (Res.one rfl rfl)
   ·exact ⟨congrArg Value.bool (show _ = decide (c = 9 ∨ c = 10 ∨ c = 11 ∨ c = 12 ∨ c = 13 ∨ c = 32) by exact df (by omega)), rfl⟩
   ·exact Ent.refl _
 ·have hg1 := of_decide_eq_true hg1
  refine Qe rfl rfl rfl (by decide) (Qe rfl rfl rfl (by decide) (Q6 rfl rfl rfl (Q6 rfl rfl rfl (Qe rfl rfl rfl (by decide) (Qr rfl rfl rfl (Qd rfl rfl (WpL.nil (Qg ?_))))))))
  apply RetQ.mk
  ·exact (Res.one rfl rfl)
  ·exact ⟨congrArg Value.bool (show _ = decide (c = 9 ∨ c = 10 ∨ c = 11 ∨ c = 12 ∨ c = 13 ∨ c = 32) by exact dt (by omega)), rfl⟩
  ·exact Ent.refl _

theorem ZD (n c M : Int) (h0 : 0 ≤ c) (h1 : c ≤ 255) (hn : 0 ≤ n) (hM : 0 ≤ M) (hN : M ≤ 2 ^ 60) : Fn Tryz.prog 155 #[.int .i64 n, .int .u8 c, .int .i64 M] [] (fun v l => v = .tuple #[.int .i64 (Xh n c M).1, .int .i64 (Xh n c M).2] ∧ l = []) := by
 refine Qo (vs := [.int .i64 n, .int .u8 c, .int .i64 M]) Tryz.func155 rfl Tryz.ntmps155 rfl (Qb (Qa (Qd rfl rfl (Qd rfl rfl (WpL.nil (Qb (Qb (Qa (Qc rfl rfl (Xc rfl rfl rfl (Qc rfl rfl (QP rfl rfl rfl (fun hg1 => ?_) (fun hg1 => ?_)))))))))))))
 ·have hg1 := of_decide_eq_false hg1
  refine Qc rfl rfl (Qf rfl rfl (XJ rfl rfl rfl (Qu rfl rfl rfl (WpL.nil (Qh rfl (fun h0 => ?_) (fun h0 => ?_))))))
  ·refine Qb (Qa (Qd rfl rfl (Qd rfl rfl (WpL.nil (Qg ?_)))))
   apply RetQ.mk
   ·exact (QX rfl rfl rfl)
   ·refine ⟨?_, rfl⟩
    unfold Xh
    repeat' split
    all_goals first | rfl | (exfalso; omega)
   ·exact Ent.refl _
  ·refine Wp.skip (Qb (Qa (Qc rfl rfl (Yk rfl Tryz.underlying5 rfl (Qp (by omega) (by omega)) ?_))))
   refine Zr rfl rfl rfl (Qp (by omega) (by omega)) ?_
   refine Qd rfl rfl (WpL.nil (Qb (Qb (Qa (Qc rfl rfl (Qc rfl rfl (Y2 rfl rfl rfl (by omega) (by omega) (Qp (by omega) (by omega)) ?_)))))))
   refine XJ rfl rfl rfl (WpL.nil (Qh rfl (fun h1 => ?_) (fun h1 => ?_)))
   ·refine Qb (Qa (Qd rfl rfl (Qd rfl rfl (WpL.nil (Qg ?_)))))
    apply RetQ.mk
    ·exact (QX rfl rfl rfl)
    ·refine ⟨?_, rfl⟩
     unfold Xh
     repeat' split
     all_goals first | rfl | (exfalso; omega)
    ·exact Ent.refl _
   ·refine Wp.skip (Qb (Qb (Qa (Qc rfl rfl (Qc rfl rfl (Y2 rfl rfl rfl (by omega) (by omega) (Qp (by omega) (by omega)) ?_))))))
    refine QJ rfl rfl rfl (Qc rfl rfl (QP rfl rfl rfl (fun hg2 => ?_) (fun hg2 => ?_)))
    ·have hg2 := of_decide_eq_true hg2
     refine Qc rfl rfl (Qf rfl rfl (Qc rfl rfl (Qf rfl rfl (YO rfl rfl rfl (by omega) (by omega) ?_))))
     refine Qf rfl rfl (XJ rfl rfl rfl (Qr rfl rfl rfl (WpL.nil (Qh rfl (fun h2 => ?_) (fun h2 => ?_)))))
     ·refine Qb (Qa (Qd rfl rfl (Qd rfl rfl (WpL.nil (Qg ?_)))))
      apply RetQ.mk
      ·exact (QX rfl rfl rfl)
      ·refine ⟨?_, rfl⟩
       unfold Xh
       repeat' split
       all_goals first | rfl | (exfalso; omega)
      ·exact Ent.refl _
     ·refine Wp.skip (Qb (Qa (Qc rfl rfl (XQ rfl rfl rfl (Qp (by omega) (by omega)) ?_))))
      refine Qc rfl rfl (Qx rfl rfl rfl (Qp (by omega) (by omega)) ?_)
      refine Qd rfl rfl (Qd rfl rfl (WpL.nil (Qg ?_)))
      apply RetQ.mk
      ·exact (QX rfl rfl rfl)
      ·refine ⟨?_, rfl⟩
       unfold Xh
       repeat' split
       all_goals first | (exfalso; omega) | exact congrArg (fun z => Value.tuple #[.int .i64 z, .int .i64 0]) (by omega)
      ·exact Ent.refl _
    ·have hg2 := of_decide_eq_false hg2
     refine Qe rfl rfl rfl (by decide) (Qe rfl rfl rfl (by decide) (Qe rfl rfl rfl (by decide) (Qu rfl rfl rfl (WpL.nil (QS rfl (Wp.skip (Qb (Qa (Qc rfl rfl (XQ rfl rfl rfl (Qp (by omega) (by omega)) ?_))))))))))
     refine Qc rfl rfl (Qx rfl rfl rfl (Qp (by omega) (by omega)) ?_)
     refine Qd rfl rfl (Qd rfl rfl (WpL.nil (Qg ?_)))
     apply RetQ.mk
     ·exact (QX rfl rfl rfl)
     ·refine ⟨?_, rfl⟩
      unfold Xh
      repeat' split
      all_goals first | (exfalso; omega) | exact congrArg (fun z => Value.tuple #[.int .i64 z, .int .i64 0]) (by omega)
     ·exact Ent.refl _
 ·have hg1 := of_decide_eq_true hg1
  refine Qe rfl rfl rfl (by decide) (Qr rfl rfl rfl (WpL.nil (Xg rfl (Qb (Qa (Qd rfl rfl (Qd rfl rfl (WpL.nil (Qg ?_)))))))))
  apply RetQ.mk
  ·exact (QX rfl rfl rfl)
  ·refine ⟨?_, rfl⟩
   unfold Xh
   repeat' split
   all_goals first | rfl | (exfalso; omega)
  ·exact Ent.refl _

theorem ZQ (K W H M n rows last e x : Int) (b1 b2 : Option Addr) (m1 k1 m2 k2 : Nat) : Fn Tryz.prog 157 #[.agg #[.int .i64 K, .int .i64 W, .int .i64 H, .int .i64 M, .int .i64 n, .slice b1 m1 k1, .slice b2 m2 k2, .int .i64 rows, .int .i64 last, .int .i64 e], .int .i64 x] [] (fun v l => v = .agg #[.int .i64 K, .int .i64 W, .int .i64 H, .int .i64 M, .int .i64 n, .slice b1 m1 k1, .slice b2 m2 k2, .int .i64 rows, .int .i64 2, .int .i64 x] ∧ l = []) := by
 refine Qo (vs := [.agg #[.int .i64 K, .int .i64 W, .int .i64 H, .int .i64 M, .int .i64 n, .slice b1 m1 k1, .slice b2 m2 k2, .int .i64 rows, .int .i64 last, .int .i64 e], .int .i64 x]) Tryz.func157 rfl Tryz.ntmps157 rfl (Qb (Qa (Xf rfl rfl rfl ?_)))
 intro g1
 refine X6 rfl ?_
 intro g2
 refine WpL.nil (Qb (Qa (Qj (o2 := 8) rfl rfl rfl (QN rfl rfl rfl (WpL.nil (Qb (Qa (Qc rfl rfl (Qj (o2 := 9) rfl rfl rfl (QN rfl rfl rfl (WpL.nil (Qb ?_))))))))))))
 refine Qa ?_
 refine Qz (vs := [_, _, _, _, _, _, _, _, _, _]) rfl rfl rfl (by rfl) ?_
 refine QE rfl rfl rfl (by rfl) rfl ?_
 refine WpL.nil (Qg ?_)
 apply RetQ.mk
 ·exact (Xj rfl rfl (by rfl))
 ·exact ⟨rfl, rfl⟩
 ·exact Ent.nil _


section
variable {K W H M n rows last e x c : Int} {one row : List Int}
theorem refS1 {ch : Int} (h : (one.length : Int) + 1 ≠ ch) (hr : (row.length : Int) < W) : Xt W H (XX ch ⟨n, one, row, rows, last, e⟩ x) = (⟨n, one ++ [x], row, rows, last, e⟩, []) := by
  have e1 : Xz ch one row x = (one ++ [x], row) := if_neg (by simp; omega)
  simp only [XX, e1, Xt]
  rw [if_pos hr]
theorem refS2 {ch : Int} (h : (one.length : Int) + 1 = ch) (hr : (row.length : Int) + 1 < W) : Xt W H (XX ch ⟨n, one, row, rows, last, e⟩ x) = (⟨n, [], row ++ [(Xn (one ++ [x])).1], rows, last, e⟩, []) := by
  have e1 : Xz ch one row x = ([], row ++ [(Xn (one ++ [x])).1]) := if_pos (by simp; omega)
  simp only [XX, e1, Xt]
  rw [if_pos (by simp; omega)]
theorem refS3 {ch : Int} (h : (one.length : Int) + 1 = ch) (hr : ¬ (row.length : Int) + 1 < W) : Xt W H (XX ch ⟨n, one, row, rows, last, e⟩ x) = (⟨n, [], [], rows + 1, if rows + 1 = H then 1 else last, e⟩, row ++ [(Xn (one ++ [x])).1]) := by
  have e1 : Xz ch one row x = ([], row ++ [(Xn (one ++ [x])).1]) := if_pos (by simp; omega)
  simp only [XX, e1, Xt]
  rw [if_neg (by simp; omega)]
theorem fullR_no {s : RS} (hr : (s.row.length : Int) < W) : Xt W H s = (s, []) := if_pos hr
theorem putQ0 (h : last ≠ 0) : Xw K W H M ⟨n, one, row, rows, last, e⟩ c = (⟨n, one, row, rows, last, e⟩, []) := if_pos h
theorem putQ_step {s s' : RS} (h : s.last = 0) (he : XV K M s c = (s', 0)) : Xw K W H M s c = Xt W H s' := by
  unfold Xw; rw [if_neg (by omega), he, if_neg (by simp)]
theorem putQ_bad {s s' : RS} {r : Int} (h : s.last = 0) (he : XV K M s c = (s', r)) (hr : r ≠ 0) : Xw K W H M s c = (Zm s' r, []) := by
  unfold Xw; rw [if_neg (by omega), he, if_pos hr]
end

theorem Vl (K W H M n rows last e : Int) (a1 a2 : Option Addr) (c1 c2 : Nat) (one row : List Int) (x : Int) (hK : 1 ≤ K) (hK2 : K ≤ 3) (h1 : (one.length : Int) < QT K) (h2 : (row.length : Int) < W) (hW : W ≤ 2 ^ 20) (h3 : 0 ≤ rows) (h4 : rows ≤ 2 ^ 60) : Fn Tryz.prog 156 #[.agg #[.int .i64 K, .int .i64 W, .int .i64 H, .int .i64 M, .int .i64 n, .slice a1 one.length c1, .slice a2 row.length c2, .int .i64 rows, .int .i64 last, .int .i64 e], .int .i64 x] [own 3 1 a1 c1 (one).length (Q2 one), own 92 1 a2 c2 (row).length (XG row)] (fun v l => ∃ n' one' row' rows' last' e' out a1 c1 a2 c2 a3 c3, ((⟨n', one', row', rows', last', e'⟩ : RS), out) = Xt W H (XX (QT K) ⟨n, one, row, rows, last, e⟩ x) ∧ v = .tuple #[.agg #[.int .i64 K, .int .i64 W, .int .i64 H, .int .i64 M, .int .i64 n', .slice a1 one'.length c1, .slice a2 row'.length c2, .int .i64 rows', .int .i64 last', .int .i64 e'], .slice a3 out.length c3] ∧ l = [own 3 1 a1 c1 (one').length (Q2 one'), own 92 1 a2 c2 (row').length (XG row'), own 92 1 a3 c3 (out).length (XG out)]) := by
 have hc3 : K = 3 → QT K = 3 := fun h => by rw [h]; rfl
 have hc1 : K ≠ 3 → QT K = 1 := fun h => if_neg (by omega)
 have hch := Vd K
 refine Qo (vs := [.agg #[.int .i64 K, .int .i64 W, .int .i64 H, .int .i64 M, .int .i64 n, .slice a1 one.length c1, .slice a2 row.length c2, .int .i64 rows, .int .i64 last, .int .i64 e], .int .i64 x]) Tryz.func156 rfl Tryz.ntmps156 rfl (Qb (Qa (Xf rfl rfl rfl ?_)))
 intro g1
 refine X6 rfl ?_
 intro g2
 refine Qd rfl rfl (WpL.nil (Qb (Qa (Qd rfl rfl (WpL.nil (Qb (Qa (Qc rfl rfl (Qj (o2 := 5) rfl rfl rfl (Qm rfl rfl (by rfl) ?_))))))))))
 refine WpL.ent (Ent.own_nil (T := 3) (s := 1) (Ent.refl _)) ?_
 refine s_appo (xs := []) rfl rfl rfl (by repeat' constructor) (by rfl) (by rfl) (ints_one _) (by omega) (by omega) ?_
 intro a13 c13
 rw [List.nil_append, Nat.zero_add]
 refine Qd rfl rfl (WpL.nil (Qb (Qa (Qc rfl rfl (Qc rfl rfl ?_)))))
 refine X7 rfl rfl rfl rfl ?_
 intro g3
 refine XC rfl rfl rfl (by repeat' constructor) (by rfl) (by rfl) (by rfl) (by rfl) (by omega) (by omega) ?_
 intro a17 c17
 rw [X3, show one.length + 1 = (one ++ [x]).length from by simp]
 refine Qd rfl rfl (WpL.nil (Qb (Qb (Qa (Qj (o2 := 0) rfl rfl rfl (Qj (o2 := 0) rfl rfl rfl (Qm rfl rfl (by rfl) ?_)))))))
 refine QJ rfl rfl rfl (Qc rfl rfl (QP rfl rfl rfl (fun hg1 => ?_) (fun hg1 => ?_)))
 ·have hg1 := of_decide_eq_true hg1
  refine Qc rfl rfl (Qf rfl rfl (QO rfl rfl (Qf rfl rfl (Xc rfl rfl rfl (Qr rfl rfl rfl (WpL.nil (Qh rfl (fun h0 => ?_) (fun h0 => ?_))))))))
  ·refine Qb (Qa (Qc rfl rfl (Qj (o2 := 5) rfl rfl rfl (QN rfl rfl rfl (WpL.nil (Qb (Qa ?_)))))))
   refine Qz (vs := [_, _, _, _, _, _, _, _, _, _]) rfl rfl rfl (by rfl) ?_
   refine QE rfl rfl rfl (by rfl) rfl ?_
   refine Qd rfl rfl (WpL.nil (Qg ?_))
   apply RetQ.mk
   ·exact (QK rfl rfl (by rfl) rfl)
   ·have hl1 : ((one ++ [x]).length : Int) = one.length + 1 := by simp
    have hl2 : ((row ++ [(Xn (one ++ [x])).1]).length : Int) = row.length + 1 := by simp
    rw [refS1 (by omega) (by omega)]
    exact ⟨_, _, _, _, _, _, _, a17, c17, a2, c2, none, 0, rfl, rfl, rfl⟩
   ·exact (Ent.own_nil (T := 92) (s := 1) (Ent.refl _)).trans (Take.ent' (by repeat' constructor))
  ·refine Wp.skip (Qb (Qa (Qj (o2 := 5) rfl rfl rfl (QN rfl rfl rfl (WpL.nil (Qb (Qa (Qc rfl rfl (Qk rfl rfl (by repeat' constructor) (YI [_] a17 c17 (one ++ [x]) Q4 (by simp; omega)) ?_)))))))))
   rintro _ _ ⟨rfl, rfl⟩
   simp only [Qv]
   refine Qc rfl rfl (QL rfl rfl rfl (QL rfl rfl rfl (Qd rfl rfl (Qd rfl rfl (WpL.nil (Qb (Qa (Qd rfl rfl (WpL.nil (Qb (Qa (Qc rfl rfl ?_))))))))))))
   refine Qj (o2 := 6) rfl rfl rfl (Qm rfl rfl (by rfl) ?_)
   refine WpL.ent (Ent.own_nil (T := 92) (s := 1) (Ent.refl _)) ?_
   refine s_appo (xs := []) rfl rfl rfl (by repeat' constructor) (by rfl) (by rfl) (pxs_one _) (by omega) (by omega) ?_
   intro a39 c39
   rw [List.nil_append, Nat.zero_add]
   refine Qd rfl rfl (WpL.nil (Qb (Qa (Qc rfl rfl (Qc rfl rfl ?_)))))
   refine X7 rfl rfl rfl rfl ?_
   intro g4
   refine XC rfl rfl rfl (by repeat' constructor) (by rfl) (by rfl) (by rfl) (by rfl) (by omega) (by omega) ?_
   intro a43 c43
   rw [YH, show row.length + 1 = (row ++ [(Xn (one ++ [x])).1]).length from by simp]
   refine Qd rfl rfl (WpL.nil (Qb (Qb (Qa (Qc rfl rfl (QO rfl rfl (Qj (o2 := 0) rfl rfl rfl (Qj (o2 := 1) rfl rfl rfl (Qm rfl rfl (by rfl) ?_)))))))))
   refine Xc rfl rfl rfl (WpL.nil (Qh rfl (fun h1 => ?_) (fun h1 => ?_)))
   ·refine Qb (Qa (Qc rfl rfl (Qj (o2 := 6) rfl rfl rfl (QN rfl rfl rfl (WpL.nil (Qb (Qa ?_)))))))
    refine Qz (vs := [_, _, _, _, _, _, _, _, _, _]) rfl rfl rfl (by rfl) ?_
    refine QE rfl rfl rfl (by rfl) rfl ?_
    refine Qd rfl rfl (WpL.nil (Qg ?_))
    apply RetQ.mk
    ·exact (QK rfl rfl (by rfl) rfl)
    ·have hl1 : ((one ++ [x]).length : Int) = one.length + 1 := by simp
     have hl2 : ((row ++ [(Xn (one ++ [x])).1]).length : Int) = row.length + 1 := by simp
     rw [refS2 (by omega) (by omega)]
     exact ⟨_, _, _, _, _, _, _, none, 0, a43, c43, none, 0, rfl, rfl, rfl⟩
    ·exact (Ent.own_nil (T := 3) (s := 1) (Ent.refl _)).trans ((Ent.own_nil (T := 92) (s := 1) (Ent.refl _)).trans (Take.ent' (by repeat' constructor)))
   ·refine Wp.skip (Qb (Qa (Qj (o2 := 6) rfl rfl rfl (QN rfl rfl rfl (WpL.nil (Qb (Qa (Qj (o2 := 7) rfl rfl rfl (Qm rfl rfl (by rfl) ?_)))))))))
    refine Qx rfl rfl rfl (Qp (by omega) (by omega)) ?_
    refine Qj (o2 := 7) rfl rfl rfl (QN rfl rfl rfl (WpL.nil (Qb (Qb (Qa (Qj (o2 := 7) rfl rfl rfl (Qm rfl rfl (by rfl) ?_)))))))
    refine Qj (o2 := 0) rfl rfl rfl (Qj (o2 := 2) rfl rfl rfl (Qm rfl rfl (by rfl) ?_))
    refine QJ rfl rfl rfl (WpL.nil (Qh rfl (fun h2 => ?_) (fun h2 => ?_)))
    ·refine Qa (Qj (o2 := 8) rfl rfl rfl (QN rfl rfl rfl (WpL.nil (Qb (Qa ?_)))))
     refine Qz (vs := [_, _, _, _, _, _, _, _, _, _]) rfl rfl rfl (by rfl) ?_
     refine Qc rfl rfl ?_
     refine QE rfl rfl rfl (by rfl) rfl ?_
     refine Qd rfl rfl (WpL.nil (Qg ?_))
     apply RetQ.mk
     ·exact (QK rfl rfl (by rfl) rfl)
     ·have hl1 : ((one ++ [x]).length : Int) = one.length + 1 := by simp
      have hl2 : ((row ++ [(Xn (one ++ [x])).1]).length : Int) = row.length + 1 := by simp
      rw [refS3 (by omega) (by omega), if_pos h2]
      exact ⟨_, _, _, _, _, _, _, none, 0, none, 0, a43, c43, rfl, rfl, rfl⟩
     ·exact (Ent.own_nil (T := 3) (s := 1) (Ent.refl _)).trans ((Ent.own_nil (T := 92) (s := 1) (Ent.refl _)).trans (Take.ent' (by repeat' constructor)))
    ·refine Wp.skip (Qb (Qa ?_))
     refine Qz (vs := [_, _, _, _, _, _, _, _, _, _]) rfl rfl rfl (by rfl) ?_
     refine Qc rfl rfl ?_
     refine QE rfl rfl rfl (by rfl) rfl ?_
     refine Qd rfl rfl (WpL.nil (Qg ?_))
     apply RetQ.mk
     ·exact (QK rfl rfl (by rfl) rfl)
     ·have hl1 : ((one ++ [x]).length : Int) = one.length + 1 := by simp
      have hl2 : ((row ++ [(Xn (one ++ [x])).1]).length : Int) = row.length + 1 := by simp
      rw [refS3 (by omega) (by omega), if_neg h2]
      exact ⟨_, _, _, _, _, _, _, none, 0, none, 0, a43, c43, rfl, rfl, rfl⟩
     ·exact (Ent.own_nil (T := 3) (s := 1) (Ent.refl _)).trans ((Ent.own_nil (T := 92) (s := 1) (Ent.refl _)).trans (Take.ent' (by repeat' constructor)))
 ·have hg1 := of_decide_eq_false hg1
  refine Qe rfl rfl rfl (by decide) (Qe rfl rfl rfl (by decide) (Qu rfl rfl rfl (WpL.nil (QS rfl (Wp.skip (Qb (Qa (Qj (o2 := 5) rfl rfl rfl (QN rfl rfl rfl (WpL.nil (Qb (Qa ?_))))))))))))
  refine Qc rfl rfl (Qk rfl rfl (by repeat' constructor) (YI [_] a17 c17 (one ++ [x]) Q4 (by simp; omega)) ?_)
  rintro _ _ ⟨rfl, rfl⟩
  simp only [Qv]
  refine Qc rfl rfl (QL rfl rfl rfl (QL rfl rfl rfl (Qd rfl rfl (Qd rfl rfl (WpL.nil (Qb (Qa (Qd rfl rfl (WpL.nil (Qb (Qa (Qc rfl rfl ?_))))))))))))
  refine Qj (o2 := 6) rfl rfl rfl (Qm rfl rfl (by rfl) ?_)
  refine WpL.ent (Ent.own_nil (T := 92) (s := 1) (Ent.refl _)) ?_
  refine s_appo (xs := []) rfl rfl rfl (by repeat' constructor) (by rfl) (by rfl) (pxs_one _) (by omega) (by omega) ?_
  intro a39 c39
  rw [List.nil_append, Nat.zero_add]
  refine Qd rfl rfl (WpL.nil (Qb (Qa (Qc rfl rfl (Qc rfl rfl ?_)))))
  refine X7 rfl rfl rfl rfl ?_
  intro g5
  refine XC rfl rfl rfl (by repeat' constructor) (by rfl) (by rfl) (by rfl) (by rfl) (by omega) (by omega) ?_
  intro a43 c43
  rw [YH, show row.length + 1 = (row ++ [(Xn (one ++ [x])).1]).length from by simp]
  refine Qd rfl rfl (WpL.nil (Qb (Qb (Qa (Qc rfl rfl (QO rfl rfl (Qj (o2 := 0) rfl rfl rfl (Qj (o2 := 1) rfl rfl rfl (Qm rfl rfl (by rfl) ?_)))))))))
  refine Xc rfl rfl rfl (WpL.nil (Qh rfl (fun h1 => ?_) (fun h1 => ?_)))
  ·refine Qb (Qa (Qc rfl rfl (Qj (o2 := 6) rfl rfl rfl (QN rfl rfl rfl (WpL.nil (Qb (Qa ?_)))))))
   refine Qz (vs := [_, _, _, _, _, _, _, _, _, _]) rfl rfl rfl (by rfl) ?_
   refine QE rfl rfl rfl (by rfl) rfl ?_
   refine Qd rfl rfl (WpL.nil (Qg ?_))
   apply RetQ.mk
   ·exact (QK rfl rfl (by rfl) rfl)
   ·have hl1 : ((one ++ [x]).length : Int) = one.length + 1 := by simp
    have hl2 : ((row ++ [(Xn (one ++ [x])).1]).length : Int) = row.length + 1 := by simp
    rw [refS2 (by omega) (by omega)]
    exact ⟨_, _, _, _, _, _, _, none, 0, a43, c43, none, 0, rfl, rfl, rfl⟩
   ·exact (Ent.own_nil (T := 3) (s := 1) (Ent.refl _)).trans ((Ent.own_nil (T := 92) (s := 1) (Ent.refl _)).trans (Take.ent' (by repeat' constructor)))
  ·refine Wp.skip (Qb (Qa (Qj (o2 := 6) rfl rfl rfl (QN rfl rfl rfl (WpL.nil (Qb (Qa (Qj (o2 := 7) rfl rfl rfl (Qm rfl rfl (by rfl) ?_)))))))))
   refine Qx rfl rfl rfl (Qp (by omega) (by omega)) ?_
   refine Qj (o2 := 7) rfl rfl rfl (QN rfl rfl rfl (WpL.nil (Qb (Qb (Qa (Qj (o2 := 7) rfl rfl rfl (Qm rfl rfl (by rfl) ?_)))))))
   refine Qj (o2 := 0) rfl rfl rfl (Qj (o2 := 2) rfl rfl rfl (Qm rfl rfl (by rfl) ?_))
   refine QJ rfl rfl rfl (WpL.nil (Qh rfl (fun h2 => ?_) (fun h2 => ?_)))
   ·refine Qa (Qj (o2 := 8) rfl rfl rfl (QN rfl rfl rfl (WpL.nil (Qb (Qa ?_)))))
    refine Qz (vs := [_, _, _, _, _, _, _, _, _, _]) rfl rfl rfl (by rfl) ?_
    refine Qc rfl rfl ?_
    refine QE rfl rfl rfl (by rfl) rfl ?_
    refine Qd rfl rfl (WpL.nil (Qg ?_))
    apply RetQ.mk
    ·exact (QK rfl rfl (by rfl) rfl)
    ·have hl1 : ((one ++ [x]).length : Int) = one.length + 1 := by simp
     have hl2 : ((row ++ [(Xn (one ++ [x])).1]).length : Int) = row.length + 1 := by simp
     rw [refS3 (by omega) (by omega), if_pos h2]
     exact ⟨_, _, _, _, _, _, _, none, 0, none, 0, a43, c43, rfl, rfl, rfl⟩
    ·exact (Ent.own_nil (T := 3) (s := 1) (Ent.refl _)).trans ((Ent.own_nil (T := 92) (s := 1) (Ent.refl _)).trans (Take.ent' (by repeat' constructor)))
   ·refine Wp.skip (Qb (Qa ?_))
    refine Qz (vs := [_, _, _, _, _, _, _, _, _, _]) rfl rfl rfl (by rfl) ?_
    refine Qc rfl rfl ?_
    refine QE rfl rfl rfl (by rfl) rfl ?_
    refine Qd rfl rfl (WpL.nil (Qg ?_))
    apply RetQ.mk
    ·exact (QK rfl rfl (by rfl) rfl)
    ·have hl1 : ((one ++ [x]).length : Int) = one.length + 1 := by simp
     have hl2 : ((row ++ [(Xn (one ++ [x])).1]).length : Int) = row.length + 1 := by simp
     rw [refS3 (by omega) (by omega), if_neg h2]
     exact ⟨_, _, _, _, _, _, _, none, 0, none, 0, a43, c43, rfl, rfl, rfl⟩
    ·exact (Ent.own_nil (T := 3) (s := 1) (Ent.refl _)).trans ((Ent.own_nil (T := 92) (s := 1) (Ent.refl _)).trans (Take.ent' (by repeat' constructor)))


def RGood (K W : Int) (s : RS) : Prop := -1 ≤ s.n ∧ (K = 1 → s.n = -1) ∧ (s.row.length : Int) < W
def endB (K W H : Int) (s : RS) : RS × List Int := if s.last ≠ 0 then (s, []) else Xt W H (Yq (QT K) s)
section
variable {K W H M n rows last e x c : Int} {one row : List Int}
theorem stp_bn (hl : last = 0) (hr : (row.length : Int) < W) (hn : n = -1) (hb : Q8 c = true) : Xw K W H M ⟨n, one, row, rows, last, e⟩ c = (⟨n, one, row, rows, last, e⟩, []) := by
  have he : Yq (QT K) ⟨n, one, row, rows, last, e⟩ = ⟨n, one, row, rows, last, e⟩ := if_pos hn
  rw [putQ_step (s' := ⟨n, one, row, rows, last, e⟩) hl (by unfold XV; split; exact if_pos hb; unfold ZB; rw [if_pos hb, he])]
  exact fullR_no hr
theorem stp_bs (hl : last = 0) (hn : n ≠ -1) (hK : K = 1 → n = -1) (hb : Q8 c = true) : Xw K W H M ⟨n, one, row, rows, last, e⟩ c = Xt W H (XX (QT K) ⟨-1, one, row, rows, last, e⟩ n) := by
  have he : Yq (QT K) ⟨n, one, row, rows, last, e⟩ = XX (QT K) ⟨-1, one, row, rows, last, e⟩ n := if_neg hn
  rw [putQ_step hl (by unfold XV; rw [if_neg (fun h => hn (hK h))]; unfold ZB; rw [if_pos hb, he])]
theorem stp_b3 (hl : last = 0) (hK : K = 1) (hb : Q8 c = false) (h1 : c ≠ 48) (h2 : c ≠ 49) : Xw K W H M ⟨n, one, row, rows, last, e⟩ c = (Zm ⟨n, one, row, rows, last, e⟩ 3, []) := by
  rw [putQ_bad (s' := ⟨n, one, row, rows, last, e⟩) (r := 3) hl (by unfold XV; rw [if_pos hK]; unfold Z0; rw [if_neg (by rw [hb]; decide), if_pos ⟨h1, h2⟩]) (by decide)]
theorem stp_b1 (hl : last = 0) (hK : K = 1) (hb : Q8 c = false) (h : c = 48 ∨ c = 49) : Xw K W H M ⟨n, one, row, rows, last, e⟩ c = Xt W H (XX (QT K) ⟨n, one, row, rows, last, e⟩ (c - 48)) := by
  rw [putQ_step hl (by unfold XV; rw [if_pos hK]; unfold Z0; rw [if_neg (by rw [hb]; decide), if_neg (by omega)])]
theorem stp_n5 (hl : last = 0) (hK : K ≠ 1) (hb : Q8 c = false) (h : (Xh (max n 0) c M).2 = 4) : Xw K W H M ⟨n, one, row, rows, last, e⟩ c = (Zm ⟨n, one, row, rows, last, e⟩ 5, []) := by
  rw [putQ_bad (s' := ⟨n, one, row, rows, last, e⟩) (r := 5) hl (by unfold XV; rw [if_neg hK]; unfold ZB; rw [if_neg (by rw [hb]; decide), if_pos h]) (by decide)]
theorem stp_ne (hl : last = 0) (hK : K ≠ 1) (hb : Q8 c = false) (h : (Xh (max n 0) c M).2 ≠ 4) (h0 : (Xh (max n 0) c M).2 ≠ 0) : Xw K W H M ⟨n, one, row, rows, last, e⟩ c = (Zm ⟨n, one, row, rows, last, e⟩ (Xh (max n 0) c M).2, []) := by
  rw [putQ_bad (s' := ⟨n, one, row, rows, last, e⟩) (r := (Xh (max n 0) c M).2) hl (by unfold XV; rw [if_neg hK]; unfold ZB; rw [if_neg (by rw [hb]; decide), if_neg h, if_neg h0]) h0]
theorem stp_n0 (hl : last = 0) (hr : (row.length : Int) < W) (hK : K ≠ 1) (hb : Q8 c = false) (h : (Xh (max n 0) c M).2 ≠ 4) (h0 : (Xh (max n 0) c M).2 = 0) : Xw K W H M ⟨n, one, row, rows, last, e⟩ c = (⟨(Xh (max n 0) c M).1, one, row, rows, last, e⟩, []) := by
  rw [putQ_step (s' := ⟨(Xh (max n 0) c M).1, one, row, rows, last, e⟩) hl (by unfold XV; rw [if_neg hK]; unfold ZB; rw [if_neg (by rw [hb]; decide), if_neg h, if_pos h0])]
  exact fullR_no hr
theorem stepN_nn (hn : 0 ≤ n) : 0 ≤ (Xh n c M).1 := by
  unfold Xh
  repeat' split
  all_goals simp only; omega
theorem fullR_good {s : RS} (hW : 1 ≤ W) (h1 : -1 ≤ s.n) (h2 : K = 1 → s.n = -1) : RGood K W (Xt W H s).1 := by
  unfold Xt
  split
  · exact ⟨h1, h2, by assumption⟩
  · exact ⟨h1, h2, by simp; omega⟩
theorem endsR_n {ch : Int} {s : RS} : (Yq ch s).n = -1 := by unfold Yq; split <;> simp_all
theorem stepR_n {s : RS} (h1 : -1 ≤ s.n) (h2 : K = 1 → s.n = -1) : -1 ≤ (XV K M s c).1.n ∧ (K = 1 → (XV K M s c).1.n = -1) := by
  unfold XV
  split
  · rename_i hK
    unfold Z0
    repeat' split
    all_goals exact ⟨h1, h2⟩
  · rename_i hK
    refine ⟨?_, fun h => absurd h hK⟩
    unfold ZB
    repeat' split
    · rw [endsR_n]; decide
    · exact h1
    · have := stepN_nn (n := max s.n 0) (c := c) (M := M) (by omega)
      simp only; omega
    · exact h1
theorem stepR_er {s : RS} (h : (XV K M s c).2 ≠ 0) : (XV K M s c).1 = s := by
  revert h
  unfold XV Z0 ZB
  repeat' split
  all_goals simp_all
theorem putR_good {s : RS} (hW : 1 ≤ W) (h : RGood K W s) : RGood K W (Xw K W H M s c).1 := by
  have h1 := stepR_n (M := M) (c := c) h.1 h.2.1
  unfold Xw
  split
  · exact h
  · split
    · rename_i hr
      exact ⟨h1.1, h1.2, by simp only [Zm]; rw [stepR_er hr]; exact h.2.2⟩
    · exact fullR_good hW h1.1 h1.2
theorem endR_B {s : RS} : Yd K W H s = if (endB K W H s).1.last = 0 then (Zm (endB K W H s).1 6, (endB K W H s).2) else endB K W H s := by
  unfold Yd endB
  split
  · rename_i h
    rfl
  · rfl
theorem endB_m (hr : (row.length : Int) < W) (hn : n = -1) : endB K W H ⟨n, one, row, rows, last, e⟩ = (⟨n, one, row, rows, last, e⟩, []) := by
  unfold endB
  split
  · rfl
  · have he : Yq (QT K) ⟨n, one, row, rows, last, e⟩ = ⟨n, one, row, rows, last, e⟩ := if_pos hn
    rw [he]
    exact fullR_no hr
theorem endB_p (hl : last = 0) (hn : n ≠ -1) (hK : K = 1 → n = -1) : endB K W H ⟨n, one, row, rows, last, e⟩ = Xw K W H M ⟨n, one, row, rows, last, e⟩ 32 := by
  unfold endB
  rw [if_neg (by simp only; omega), stp_bs hl hn hK rfl]
  have he : Yq (QT K) ⟨n, one, row, rows, last, e⟩ = XX (QT K) ⟨-1, one, row, rows, last, e⟩ n := if_neg hn
  rw [he]
end

theorem rPut_spec (K W H M n rows last e : Int) (a1 a2 : Option Addr) (c1 c2 : Nat) (one row : List Int) (c : Int) (hc : 0 ≤ c) (hc2 : c ≤ 255) (hK : 1 ≤ K) (hK2 : K ≤ 3) (q1 : (one.length : Int) < QT K) (q2 : (row.length : Int) < W) (qW : W ≤ 2 ^ 20) (q3 : 0 ≤ rows) (q4 : rows ≤ 2 ^ 60) (qn : -1 ≤ n) (qk : K = 1 → n = -1) (hM : 0 ≤ M) (hN : M ≤ 2 ^ 60) : Fn Tryz.prog 106 #[.agg #[.int .i64 K, .int .i64 W, .int .i64 H, .int .i64 M, .int .i64 n, .slice a1 one.length c1, .slice a2 row.length c2, .int .i64 rows, .int .i64 last, .int .i64 e], .int .u8 c] [own 3 1 a1 c1 (one).length (Q2 one), own 92 1 a2 c2 (row).length (XG row)] (fun v l => ∃ n' one' row' rows' last' e' out a1 c1 a2 c2 a3 c3, ((⟨n', one', row', rows', last', e'⟩ : RS), out) = Xw K W H M ⟨n, one, row, rows, last, e⟩ c ∧ v = .tuple #[.agg #[.int .i64 K, .int .i64 W, .int .i64 H, .int .i64 M, .int .i64 n', .slice a1 one'.length c1, .slice a2 row'.length c2, .int .i64 rows', .int .i64 last', .int .i64 e'], .slice a3 out.length c3] ∧ l = [own 3 1 a1 c1 (one').length (Q2 one'), own 92 1 a2 c2 (row').length (XG row'), own 92 1 a3 c3 (out).length (XG out)]) := by
 refine Qo (vs := [.agg #[.int .i64 K, .int .i64 W, .int .i64 H, .int .i64 M, .int .i64 n, .slice a1 one.length c1, .slice a2 row.length c2, .int .i64 rows, .int .i64 last, .int .i64 e], .int .u8 c]) Tryz.func106 rfl Tryz.ntmps106 rfl (Qb (Qa (Xf rfl rfl rfl ?_)))
 intro g1
 refine X6 rfl ?_
 intro g2
 refine Qd rfl rfl (WpL.nil (Qb (Qb (Qa (Qj (o2 := 8) rfl rfl rfl (Qm rfl rfl (by rfl) ?_))))))
 refine Xu rfl rfl rfl (WpL.nil (Qh rfl (fun h0 => ?_) (fun h0 => ?_)))
 ·refine Qb (Qa ?_)
  refine Qz (vs := [_, _, _, _, _, _, _, _, _, _]) rfl rfl rfl (by rfl) ?_
  refine QE rfl rfl rfl (by rfl) rfl ?_
  refine Qd rfl rfl (WpL.nil (Qg ?_))
  apply RetQ.mk
  ·exact (QK rfl rfl (by rfl) rfl)
  ·rw [putQ0 h0]
   exact ⟨_, _, _, _, _, _, _, a1, c1, a2, c2, none, 0, rfl, rfl, rfl⟩
  ·exact (Ent.own_nil (T := 92) (s := 1) (Ent.refl _)).trans (Take.ent' (by repeat' constructor))
 ·refine Wp.skip (Qb (Qb (Qa (Qc rfl rfl (Qk rfl rfl (by repeat' constructor) (X2 _) ?_)))))
  rintro _ _ ⟨rfl, rfl⟩
  simp only [Qv]
  refine WpL.nil (XH rfl (fun h1 => ?_) (fun h1 => ?_))
  ·refine Qb (Qb (Qa (Qj (o2 := 4) rfl rfl rfl (Qm rfl rfl (by rfl) ?_))))
   refine Xc rfl rfl rfl (WpL.nil (Qh rfl (fun h2 => ?_) (fun h2 => ?_)))
   ·refine Qb (Qa ?_)
    refine Qz (vs := [_, _, _, _, _, _, _, _, _, _]) rfl rfl rfl (by rfl) ?_
    refine QE rfl rfl rfl (by rfl) rfl ?_
    refine Qd rfl rfl (WpL.nil (Qg ?_))
    apply RetQ.mk
    ·exact (QK rfl rfl (by rfl) rfl)
    ·rw [stp_bn (by omega) (by omega) (by omega) h1]
     exact ⟨_, _, _, _, _, _, _, a1, c1, a2, c2, none, 0, rfl, rfl, rfl⟩
    ·exact (Ent.own_nil (T := 92) (s := 1) (Ent.refl _)).trans (Take.ent' (by repeat' constructor))
   ·refine Wp.skip (Qb (Qa (Qj (o2 := 4) rfl rfl rfl (Qm rfl rfl (by rfl) ?_))))
    refine Qd rfl rfl (WpL.nil (Qb (Qa (Qj (o2 := 4) rfl rfl rfl (QN rfl rfl rfl (WpL.nil (Qb (Qa ?_))))))))
    refine Qz (vs := [_, _, _, _, _, _, _, _, _, _]) rfl rfl rfl (by rfl) ?_
    refine Qc rfl rfl (Qk rfl rfl (by repeat' constructor) (Vl _ _ _ _ _ _ _ _ _ _ _ _ _ _ _ (by omega) (by omega) (by omega) (by omega) (by omega) (by omega) (by omega)) ?_)
    rintro _ _ ⟨n2, one2, row2, rows2, last2, e2, out, a1, c1, a2, c2, a3, c3, hs2, rfl, rfl⟩
    simp only [Qv]
    refine QL rfl rfl rfl (QL rfl rfl rfl ?_)
    refine QE rfl rfl rfl (by rfl) rfl ?_
    refine Qd rfl rfl (WpL.nil (Qg ?_))
    apply RetQ.mk
    ·exact (QK rfl rfl (by rfl) rfl)
    ·rw [stp_bs (by omega) (by omega) qk h1]
     exact ⟨_, _, _, _, _, _, _, a1, c1, a2, c2, a3, c3, hs2, rfl, rfl⟩
    ·exact Take.ent' (by repeat' constructor)
  ·refine Wp.skip (Qb (Qb (Qa (Qj (o2 := 0) rfl rfl rfl (Qj (o2 := 0) rfl rfl rfl (Qm rfl rfl (by rfl) ?_))))))
   refine QJ rfl rfl rfl (WpL.nil (Qh rfl (fun h3 => ?_) (fun h3 => ?_)))
   ·refine Qb (Qb (Qa (Qc rfl rfl (Xu rfl rfl rfl (Qc rfl rfl (QP rfl rfl rfl (fun hg1 => ?_) (fun hg1 => ?_)))))))
    ·have hg1 := of_decide_eq_true hg1
     refine Qc rfl rfl (Qf rfl rfl (Xu rfl rfl rfl (Qr rfl rfl rfl (WpL.nil (Qh rfl (fun h4 => ?_) (fun h4 => ?_))))))
     ·refine Qb (Qa ?_)
      refine Qz (vs := [_, _, _, _, _, _, _, _, _, _]) rfl rfl rfl (by rfl) ?_
      refine Qk rfl rfl (by repeat' constructor) (ZQ _ _ _ _ _ _ _ _ _ _ _ _ _ _ _) ?_
      rintro _ _ ⟨rfl, rfl⟩
      simp only [Qv]
      refine QE rfl rfl rfl (by rfl) rfl ?_
      refine Qd rfl rfl (WpL.nil (Qg ?_))
      apply RetQ.mk
      ·exact (QK rfl rfl (by rfl) rfl)
      ·rw [stp_b3 (by omega) h3 h1 (by omega) (by omega)]
       exact ⟨_, _, _, _, _, _, _, a1, c1, a2, c2, none, 0, rfl, rfl, rfl⟩
      ·exact (Ent.own_nil (T := 92) (s := 1) (Ent.refl _)).trans (Take.ent' (by repeat' constructor))
     ·refine Wp.skip (Qb (Qa ?_))
      refine Qz (vs := [_, _, _, _, _, _, _, _, _, _]) rfl rfl rfl (by rfl) ?_
      refine Qc rfl rfl (Yk rfl Tryz.underlying5 rfl (Qp (by omega) (by omega)) ?_)
      refine Zr rfl rfl rfl (Qp (by omega) (by omega)) ?_
      refine Qk rfl rfl (by repeat' constructor) (Vl _ _ _ _ _ _ _ _ _ _ _ _ _ _ _ (by omega) (by omega) (by omega) (by omega) (by omega) (by omega) (by omega)) ?_
      rintro _ _ ⟨n2, one2, row2, rows2, last2, e2, out, a1, c1, a2, c2, a3, c3, hs2, rfl, rfl⟩
      simp only [Qv]
      refine QL rfl rfl rfl (QL rfl rfl rfl ?_)
      refine QE rfl rfl rfl (by rfl) rfl ?_
      refine Qd rfl rfl (WpL.nil (Qg ?_))
      apply RetQ.mk
      ·exact (QK rfl rfl (by rfl) rfl)
      ·rw [stp_b1 (by omega) h3 h1 (by omega)]
       exact ⟨_, _, _, _, _, _, _, a1, c1, a2, c2, a3, c3, hs2, rfl, rfl⟩
      ·exact Take.ent' (by repeat' constructor)
    ·have hg1 := of_decide_eq_false hg1
     refine Qe rfl rfl rfl (by decide) (Qu rfl rfl rfl (WpL.nil (QS rfl (Wp.skip (Qb (Qa ?_))))))
     refine Qz (vs := [_, _, _, _, _, _, _, _, _, _]) rfl rfl rfl (by rfl) ?_
     refine Qc rfl rfl (Yk rfl Tryz.underlying5 rfl (Qp (by omega) (by omega)) ?_)
     refine Zr rfl rfl rfl (Qp (by omega) (by omega)) ?_
     refine Qk rfl rfl (by repeat' constructor) (Vl _ _ _ _ _ _ _ _ _ _ _ _ _ _ _ (by omega) (by omega) (by omega) (by omega) (by omega) (by omega) (by omega)) ?_
     rintro _ _ ⟨n2, one2, row2, rows2, last2, e2, out, a1, c1, a2, c2, a3, c3, hs2, rfl, rfl⟩
     simp only [Qv]
     refine QL rfl rfl rfl (QL rfl rfl rfl ?_)
     refine QE rfl rfl rfl (by rfl) rfl ?_
     refine Qd rfl rfl (WpL.nil (Qg ?_))
     apply RetQ.mk
     ·exact (QK rfl rfl (by rfl) rfl)
     ·rw [stp_b1 (by omega) h3 h1 (by omega)]
      exact ⟨_, _, _, _, _, _, _, a1, c1, a2, c2, a3, c3, hs2, rfl, rfl⟩
     ·exact Take.ent' (by repeat' constructor)
   ·refine Wp.skip (Qb (Qa (Qj (o2 := 4) rfl rfl rfl (Qm rfl rfl (by rfl) ?_))))
    refine s_max2 rfl rfl rfl (Qc rfl rfl (Qj (o2 := 0) rfl rfl rfl (Qj (o2 := 3) rfl rfl rfl (Qm rfl rfl (by rfl) ?_))))
    refine Qk rfl rfl (by repeat' constructor) (ZD _ _ _ (by omega) (by omega) (by omega) (by omega) (by omega)) ?_
    rintro _ _ ⟨rfl, rfl⟩
    simp only [Qv]
    refine Qc rfl rfl (QL rfl rfl rfl (QL rfl rfl rfl (Qd rfl rfl (Qd rfl rfl (WpL.nil (Qb (Qb (Qa (Qc rfl rfl (QJ rfl rfl rfl (WpL.nil (Qh rfl (fun h5 => ?_) (fun h5 => ?_)))))))))))))
    ·refine Qb (Qa ?_)
     refine Qz (vs := [_, _, _, _, _, _, _, _, _, _]) rfl rfl rfl (by rfl) ?_
     refine Qk rfl rfl (by repeat' constructor) (ZQ _ _ _ _ _ _ _ _ _ _ _ _ _ _ _) ?_
     rintro _ _ ⟨rfl, rfl⟩
     simp only [Qv]
     refine QE rfl rfl rfl (by rfl) rfl ?_
     refine Qd rfl rfl (WpL.nil (Qg ?_))
     apply RetQ.mk
     ·exact (QK rfl rfl (by rfl) rfl)
     ·rw [stp_n5 (by omega) h3 h1 h5]
      exact ⟨_, _, _, _, _, _, _, a1, c1, a2, c2, none, 0, rfl, rfl, rfl⟩
     ·exact (Ent.own_nil (T := 92) (s := 1) (Ent.refl _)).trans (Take.ent' (by repeat' constructor))
    ·refine Wp.skip (Qb (Qb (Qa (Qc rfl rfl (Xu rfl rfl rfl (WpL.nil (Qh rfl (fun h6 => ?_) (fun h6 => ?_))))))))
     ·refine Qb (Qa ?_)
      refine Qz (vs := [_, _, _, _, _, _, _, _, _, _]) rfl rfl rfl (by rfl) ?_
      refine Qc rfl rfl (Qk rfl rfl (by repeat' constructor) (ZQ _ _ _ _ _ _ _ _ _ _ _ _ _ _ _) ?_)
      rintro _ _ ⟨rfl, rfl⟩
      simp only [Qv]
      refine QE rfl rfl rfl (by rfl) rfl ?_
      refine Qd rfl rfl (WpL.nil (Qg ?_))
      apply RetQ.mk
      ·exact (QK rfl rfl (by rfl) rfl)
      ·rw [stp_ne (by omega) h3 h1 h5 h6]
       exact ⟨_, _, _, _, _, _, _, a1, c1, a2, c2, none, 0, rfl, rfl, rfl⟩
      ·exact (Ent.own_nil (T := 92) (s := 1) (Ent.refl _)).trans (Take.ent' (by repeat' constructor))
     ·refine Wp.skip (Qb (Qa (Qc rfl rfl (Qj (o2 := 4) rfl rfl rfl (QN rfl rfl rfl (WpL.nil (Qb (Qa ?_))))))))
      refine Qz (vs := [_, _, _, _, _, _, _, _, _, _]) rfl rfl rfl (by rfl) ?_
      refine QE rfl rfl rfl (by rfl) rfl ?_
      refine Qd rfl rfl (WpL.nil (Qg ?_))
      apply RetQ.mk
      ·exact (QK rfl rfl (by rfl) rfl)
      ·rw [stp_n0 (by omega) q2 h3 h1 h5 (by omega)]
       exact ⟨_, _, _, _, _, _, _, a1, c1, a2, c2, none, 0, rfl, rfl, rfl⟩
      ·exact (Ent.own_nil (T := 92) (s := 1) (Ent.refl _)).trans (Take.ent' (by repeat' constructor))

theorem rendBlank_spec (K W H M n rows last e : Int) (a1 a2 : Option Addr) (c1 c2 : Nat) (one row : List Int) (hK : 1 ≤ K) (hK2 : K ≤ 3) (q1 : (one.length : Int) < QT K) (q2 : (row.length : Int) < W) (qW : W ≤ 2 ^ 20) (q3 : 0 ≤ rows) (q4 : rows ≤ 2 ^ 60) (qn : -1 ≤ n) (qk : K = 1 → n = -1) (hM : 0 ≤ M) (hN : M ≤ 2 ^ 60) : Fn Tryz.prog 158 #[.agg #[.int .i64 K, .int .i64 W, .int .i64 H, .int .i64 M, .int .i64 n, .slice a1 one.length c1, .slice a2 row.length c2, .int .i64 rows, .int .i64 last, .int .i64 e]] [own 3 1 a1 c1 (one).length (Q2 one), own 92 1 a2 c2 (row).length (XG row)] (fun v l => ∃ n' one' row' rows' last' e' out a1 c1 a2 c2 a3 c3, ((⟨n', one', row', rows', last', e'⟩ : RS), out) = endB K W H ⟨n, one, row, rows, last, e⟩ ∧ v = .tuple #[.agg #[.int .i64 K, .int .i64 W, .int .i64 H, .int .i64 M, .int .i64 n', .slice a1 one'.length c1, .slice a2 row'.length c2, .int .i64 rows', .int .i64 last', .int .i64 e'], .slice a3 out.length c3] ∧ l = [own 3 1 a1 c1 (one').length (Q2 one'), own 92 1 a2 c2 (row').length (XG row'), own 92 1 a3 c3 (out).length (XG out)]) := by
 refine Qo (vs := [.agg #[.int .i64 K, .int .i64 W, .int .i64 H, .int .i64 M, .int .i64 n, .slice a1 one.length c1, .slice a2 row.length c2, .int .i64 rows, .int .i64 last, .int .i64 e]]) Tryz.func158 rfl Tryz.ntmps158 rfl (Qb (Qa (Xf rfl rfl rfl ?_)))
 intro g1
 refine X6 rfl ?_
 intro g2
 refine Qd rfl rfl (WpL.nil (Qb (Qb (Qa (Qj (o2 := 4) rfl rfl rfl (Qm rfl rfl (by rfl) ?_))))))
 refine Xc rfl rfl rfl (Qc rfl rfl (QP rfl rfl rfl (fun hg1 => ?_) (fun hg1 => ?_)))
 ·have hg1 := of_decide_eq_false hg1
  refine Qj (o2 := 8) rfl rfl rfl (Qf rfl rfl (Qm rfl rfl (by rfl) ?_))
  refine Qf rfl rfl (Xu rfl rfl rfl (Qu rfl rfl rfl (WpL.nil (Qh rfl (fun h0 => ?_) (fun h0 => ?_)))))
  ·refine Qb (Qa ?_)
   refine Qz (vs := [_, _, _, _, _, _, _, _, _, _]) rfl rfl rfl (by rfl) ?_
   refine QE rfl rfl rfl (by rfl) rfl ?_
   refine Qd rfl rfl (WpL.nil (Qg ?_))
   apply RetQ.mk
   ·exact (QK rfl rfl (by rfl) rfl)
   ·rw [show endB K W H ⟨n, one, row, rows, last, e⟩ = (⟨n, one, row, rows, last, e⟩, []) from if_pos h0]
    exact ⟨_, _, _, _, _, _, _, a1, c1, a2, c2, none, 0, rfl, rfl, rfl⟩
   ·exact (Ent.own_nil (T := 92) (s := 1) (Ent.refl _)).trans (Take.ent' (by repeat' constructor))
  ·refine Wp.skip (Qb (Qa ?_))
   refine Qz (vs := [_, _, _, _, _, _, _, _, _, _]) rfl rfl rfl (by rfl) ?_
   refine Qk rfl rfl (by repeat' constructor) (rPut_spec _ _ _ _ _ _ _ _ _ _ _ _ _ _ 32 (by omega) (by omega) hK hK2 q1 q2 qW q3 q4 qn qk hM hN) ?_
   rintro _ _ ⟨n2, one2, row2, rows2, last2, e2, out, a1, c1, a2, c2, a3, c3, hs2, rfl, rfl⟩
   simp only [Qv]
   refine QL rfl rfl rfl (QL rfl rfl rfl ?_)
   refine QE rfl rfl rfl (by rfl) rfl ?_
   refine Qd rfl rfl (WpL.nil (Qg ?_))
   apply RetQ.mk
   ·exact (QK rfl rfl (by rfl) rfl)
   ·rw [endB_p (M := M) (by omega) (by omega) qk]
    exact ⟨_, _, _, _, _, _, _, a1, c1, a2, c2, a3, c3, hs2, rfl, rfl⟩
   ·exact Take.ent' (by repeat' constructor)
 ·have hg1 := of_decide_eq_true hg1
  refine Qe rfl rfl rfl (by decide) (Qe rfl rfl rfl (by decide) (Qr rfl rfl rfl (WpL.nil (Xg rfl (Qb (Qa ?_))))))
  refine Qz (vs := [_, _, _, _, _, _, _, _, _, _]) rfl rfl rfl (by rfl) ?_
  refine QE rfl rfl rfl (by rfl) rfl ?_
  refine Qd rfl rfl (WpL.nil (Qg ?_))
  apply RetQ.mk
  ·exact (QK rfl rfl (by rfl) rfl)
  ·rw [endB_m q2 (by omega)]
   exact ⟨_, _, _, _, _, _, _, a1, c1, a2, c2, none, 0, rfl, rfl, rfl⟩
  ·exact (Ent.own_nil (T := 92) (s := 1) (Ent.refl _)).trans (Take.ent' (by repeat' constructor))

theorem rEnd_spec (K W H M n rows last e : Int) (a1 a2 : Option Addr) (c1 c2 : Nat) (one row : List Int) (hK : 1 ≤ K) (hK2 : K ≤ 3) (q1 : (one.length : Int) < QT K) (q2 : (row.length : Int) < W) (qW : W ≤ 2 ^ 20) (q3 : 0 ≤ rows) (q4 : rows ≤ 2 ^ 60) (qn : -1 ≤ n) (qk : K = 1 → n = -1) (hM : 0 ≤ M) (hN : M ≤ 2 ^ 60) : Fn Tryz.prog 107 #[.agg #[.int .i64 K, .int .i64 W, .int .i64 H, .int .i64 M, .int .i64 n, .slice a1 one.length c1, .slice a2 row.length c2, .int .i64 rows, .int .i64 last, .int .i64 e]] [own 3 1 a1 c1 (one).length (Q2 one), own 92 1 a2 c2 (row).length (XG row)] (fun v l => ∃ n' one' row' rows' last' e' out a1 c1 a2 c2 a3 c3, ((⟨n', one', row', rows', last', e'⟩ : RS), out) = Yd K W H ⟨n, one, row, rows, last, e⟩ ∧ v = .tuple #[.agg #[.int .i64 K, .int .i64 W, .int .i64 H, .int .i64 M, .int .i64 n', .slice a1 one'.length c1, .slice a2 row'.length c2, .int .i64 rows', .int .i64 last', .int .i64 e'], .slice a3 out.length c3] ∧ l = [own 3 1 a1 c1 (one').length (Q2 one'), own 92 1 a2 c2 (row').length (XG row'), own 92 1 a3 c3 (out).length (XG out)]) := by
 refine Qo (vs := [.agg #[.int .i64 K, .int .i64 W, .int .i64 H, .int .i64 M, .int .i64 n, .slice a1 one.length c1, .slice a2 row.length c2, .int .i64 rows, .int .i64 last, .int .i64 e]]) Tryz.func107 rfl Tryz.ntmps107 rfl (Qb (Qa (Xf rfl rfl rfl ?_)))
 intro g1
 refine X6 rfl ?_
 intro g2
 refine Qd rfl rfl (WpL.nil (Qb (Qa ?_)))
 refine Qz (vs := [_, _, _, _, _, _, _, _, _, _]) rfl rfl rfl (by rfl) ?_
 refine Qk rfl rfl (by repeat' constructor) (rendBlank_spec _ _ _ _ _ _ _ _ _ _ _ _ _ _ hK hK2 q1 q2 qW q3 q4 qn qk hM hN) ?_
 rintro _ _ ⟨n2, one2, row2, rows2, last2, e2, out, a1, c1, a2, c2, a3, c3, hs2, rfl, rfl⟩
 simp only [Qv]
 refine Qc rfl rfl (QL rfl rfl rfl (QL rfl rfl rfl (X6 rfl ?_)))
 intro g3
 refine QE rfl rfl rfl (by rfl) rfl ?_
 refine Qd rfl rfl (WpL.nil (Qb (Qb (Qa (Qj (o2 := 8) rfl rfl rfl (Qm rfl rfl (by rfl) ?_))))))
 refine QJ rfl rfl rfl (WpL.nil (Qh rfl (fun h0 => ?_) (fun h0 => ?_)))
 ·refine Qb (Qa ?_)
  refine Qz (vs := [_, _, _, _, _, _, _, _, _, _]) rfl rfl rfl (by rfl) ?_
  refine Qk rfl rfl (by repeat' constructor) (ZQ _ _ _ _ _ _ _ _ _ _ _ _ _ _ _) ?_
  rintro _ _ ⟨rfl, rfl⟩
  simp only [Qv]
  refine Qc rfl rfl ?_
  refine QE rfl rfl rfl (by rfl) rfl ?_
  refine Qd rfl rfl (WpL.nil (Qg ?_))
  apply RetQ.mk
  ·exact (QK rfl rfl (by rfl) rfl)
  ·rw [endR_B, ← hs2, if_pos h0]
   exact ⟨_, _, _, _, _, _, _, a1, c1, a2, c2, a3, c3, rfl, rfl, rfl⟩
  ·exact Take.ent' (by repeat' constructor)
 ·refine Wp.skip (Qb (Qa ?_))
  refine Qz (vs := [_, _, _, _, _, _, _, _, _, _]) rfl rfl rfl (by rfl) ?_
  refine Qc rfl rfl ?_
  refine QE rfl rfl rfl (by rfl) rfl ?_
  refine Qd rfl rfl (WpL.nil (Qg ?_))
  apply RetQ.mk
  ·exact (QK rfl rfl (by rfl) rfl)
  ·rw [endR_B, ← hs2, if_neg h0]
   exact ⟨_, _, _, _, _, _, _, a1, c1, a2, c2, a3, c3, rfl, rfl, rfl⟩
  ·exact Take.ent' (by repeat' constructor)

theorem Vk (K : Int) : Fn Tryz.prog 101 #[.int .i64 K] [] (fun v l => v = .bool (decide (K = 1 ∨ K = 4)) ∧ l = []) := by
 refine Qo (vs := [.int .i64 K]) Tryz.func101 rfl Tryz.ntmps101 rfl (Qb (Qa (Qd rfl rfl (WpL.nil (Qb (Qa (Qc rfl rfl (QJ rfl rfl rfl (Qc rfl rfl (QP rfl rfl rfl (fun hg1 => ?_) (fun hg1 => ?_)))))))))))
 ·have hg1 := of_decide_eq_false hg1
  refine Qc rfl rfl (Qf rfl rfl (QJ rfl rfl rfl (Qu rfl rfl rfl (Qd rfl rfl (WpL.nil (Qg ?_))))))
  apply RetQ.mk
  ·exact (Res.one rfl rfl)
  ·exact ⟨congrArg Value.bool (by exact dd (by omega)), rfl⟩
  ·exact Ent.refl _
 ·have hg1 := of_decide_eq_true hg1
  refine Qe rfl rfl rfl (by decide) (Qr rfl rfl rfl (Qd rfl rfl (WpL.nil (Qg ?_))))
  apply RetQ.mk
  ·exact (Res.one rfl rfl)
  ·exact ⟨congrArg Value.bool (by exact dt (by omega)), rfl⟩
  ·exact Ent.refl _

theorem rMay06_spec (K W H M : Int) : Fn Tryz.prog 117 #[.agg #[.int .i64 K, .int .i64 W, .int .i64 H, .int .i64 M]] [] (fun v l => v = .bool (decide (XN K W H M)) ∧ l = []) := by
 refine Qo (vs := [.agg #[.int .i64 K, .int .i64 W, .int .i64 H, .int .i64 M]]) Tryz.func117 rfl Tryz.ntmps117 rfl (Qb (Qa (Xf rfl rfl rfl ?_)))
 intro g1
 refine Qd rfl rfl (WpL.nil (Qb (Qb (Qa (Qj (o2 := 0) rfl rfl rfl (Qm rfl rfl (by rfl) ?_))))))
 refine Xc rfl rfl rfl (Qc rfl rfl (QP rfl rfl rfl (fun hg1 => ?_) (fun hg1 => ?_)))
 ·have hg1 := of_decide_eq_false hg1
  refine Qj (o2 := 0) rfl rfl rfl (Qf rfl rfl (Qm rfl rfl (by rfl) ?_))
  refine Qf rfl rfl (XJ rfl rfl rfl (Qu rfl rfl rfl (Qc rfl rfl (QP rfl rfl rfl (fun hg2 => ?_) (fun hg2 => ?_)))))
  ·have hg2 := of_decide_eq_false hg2
   refine Qj (o2 := 1) rfl rfl rfl (Qf rfl rfl (Qm rfl rfl (by rfl) ?_))
   refine Qf rfl rfl (Xc rfl rfl rfl (Qu rfl rfl rfl (Qc rfl rfl (QP rfl rfl rfl (fun hg3 => ?_) (fun hg3 => ?_)))))
   ·have hg3 := of_decide_eq_false hg3
    refine Qj (o2 := 1) rfl rfl rfl (Qf rfl rfl (Qm rfl rfl (by rfl) ?_))
    refine Qf rfl rfl (XJ rfl rfl rfl (Qu rfl rfl rfl (Qc rfl rfl (QP rfl rfl rfl (fun hg4 => ?_) (fun hg4 => ?_)))))
    ·have hg4 := of_decide_eq_false hg4
     refine Qj (o2 := 2) rfl rfl rfl (Qf rfl rfl (Qm rfl rfl (by rfl) ?_))
     refine Qf rfl rfl (Xc rfl rfl rfl (Qu rfl rfl rfl (Qc rfl rfl (QP rfl rfl rfl (fun hg5 => ?_) (fun hg5 => ?_)))))
     ·have hg5 := of_decide_eq_false hg5
      refine Qj (o2 := 2) rfl rfl rfl (Qf rfl rfl (Qm rfl rfl (by rfl) ?_))
      refine Qf rfl rfl (XJ rfl rfl rfl (Qu rfl rfl rfl (Qc rfl rfl (QP rfl rfl rfl (fun hg6 => ?_) (fun hg6 => ?_)))))
      ·have hg6 := of_decide_eq_false hg6
       refine Qj (o2 := 3) rfl rfl rfl (Qf rfl rfl (Qm rfl rfl (by rfl) ?_))
       refine Qf rfl rfl (Xc rfl rfl rfl (Qu rfl rfl rfl (Qc rfl rfl (QP rfl rfl rfl (fun hg7 => ?_) (fun hg7 => ?_)))))
       ·have hg7 := of_decide_eq_false hg7
        refine Qj (o2 := 3) rfl rfl rfl (Qf rfl rfl (Qm rfl rfl (by rfl) ?_))
        refine Qf rfl rfl (XJ rfl rfl rfl (Qu rfl rfl rfl (WpL.nil (Qh rfl (fun h0 => ?_) (fun h0 => ?_)))))
        ·refine Qb (Qa (Qd rfl rfl (WpL.nil (Qg ?_))))
         apply RetQ.mk
         ·exact (Res.one rfl rfl)
         ·exact ⟨congrArg Value.bool (by exact df (by unfold XN; omega)), rfl⟩
         ·exact Ent.nil _
        ·refine Wp.skip (Qb (Qa (Qj (o2 := 3) rfl rfl rfl (Qm rfl rfl (by rfl) ?_))))
         refine QJ rfl rfl rfl (Qc rfl rfl (QP rfl rfl rfl (fun hg8 => ?_) (fun hg8 => ?_)))
         ·have hg8 := of_decide_eq_false hg8
          refine Qj (o2 := 0) rfl rfl rfl (Qf rfl rfl (Qm rfl rfl (by rfl) ?_))
          refine Qf rfl rfl (Qk rfl rfl (by repeat' constructor) (Vk _) ?_)
          rintro _ _ ⟨rfl, rfl⟩
          simp only [Qv]
          refine Qf rfl rfl (Yt rfl rfl (Qu rfl rfl rfl (Qd rfl rfl (WpL.nil (Qg ?_)))))
          apply RetQ.mk
          ·exact (Res.one rfl rfl)
          ·exact ⟨congrArg Value.bool (by exact dd (by unfold XN; omega)), rfl⟩
          ·exact Ent.nil _
         ·have hg8 := of_decide_eq_true hg8
          refine Qe rfl rfl rfl (by decide) (Qe rfl rfl rfl (by decide) (Qe rfl rfl rfl (by decide) (Qr rfl rfl rfl (Qd rfl rfl (WpL.nil (Qg ?_))))))
          apply RetQ.mk
          ·exact (Res.one rfl rfl)
          ·exact ⟨congrArg Value.bool (by exact dt (by unfold XN; omega)), rfl⟩
          ·exact Ent.nil _
       ·have hg7 := of_decide_eq_true hg7
        refine Qe rfl rfl rfl (by decide) (Qe rfl rfl rfl (by decide) (Qr rfl rfl rfl (WpL.nil (Xg rfl (Qb (Qa (Qd rfl rfl (WpL.nil (Qg ?_)))))))))
        apply RetQ.mk
        ·exact (Res.one rfl rfl)
        ·exact ⟨congrArg Value.bool (by exact df (by unfold XN; omega)), rfl⟩
        ·exact Ent.nil _
      ·have hg6 := of_decide_eq_true hg6
       refine Qe rfl rfl rfl (by decide) (Qe rfl rfl rfl (by decide) (Qr rfl rfl rfl (Qc rfl rfl (Qe rfl rfl rfl (by decide) (Qe rfl rfl rfl (by decide) (Qe rfl rfl rfl (by decide) (Qr rfl rfl rfl (WpL.nil (Xg rfl (Qb (Qa (Qd rfl rfl ?_))))))))))))
       refine WpL.nil (Qg ?_)
       apply RetQ.mk
       ·exact (Res.one rfl rfl)
       ·exact ⟨congrArg Value.bool (by exact df (by unfold XN; omega)), rfl⟩
       ·exact Ent.nil _
     ·have hg5 := of_decide_eq_true hg5
      refine Qe rfl rfl rfl (by decide) (Qe rfl rfl rfl (by decide) (Qr rfl rfl rfl (Qc rfl rfl (Qe rfl rfl rfl (by decide) (Qe rfl rfl rfl (by decide) (Qe rfl rfl rfl (by decide) (Qr rfl rfl rfl (Qc rfl rfl (Qe rfl rfl rfl (by decide) (Qe rfl rfl rfl (by decide) (Qe rfl rfl rfl (by decide) (Qr rfl rfl rfl ?_))))))))))))
      refine WpL.nil (Xg rfl (Qb (Qa (Qd rfl rfl (WpL.nil (Qg ?_))))))
      apply RetQ.mk
      ·exact (Res.one rfl rfl)
      ·exact ⟨congrArg Value.bool (by exact df (by unfold XN; omega)), rfl⟩
      ·exact Ent.nil _
    ·have hg4 := of_decide_eq_true hg4
     refine Qe rfl rfl rfl (by decide) (Qe rfl rfl rfl (by decide) (Qr rfl rfl rfl (Qc rfl rfl (Qe rfl rfl rfl (by decide) (Qe rfl rfl rfl (by decide) (Qe rfl rfl rfl (by decide) (Qr rfl rfl rfl (Qc rfl rfl (Qe rfl rfl rfl (by decide) (Qe rfl rfl rfl (by decide) (Qe rfl rfl rfl (by decide) (Qr rfl rfl rfl ?_))))))))))))
     refine Qc rfl rfl (Qe rfl rfl rfl (by decide) (Qe rfl rfl rfl (by decide) (Qe rfl rfl rfl (by decide) (Qr rfl rfl rfl (WpL.nil (Xg rfl (Qb (Qa (Qd rfl rfl (WpL.nil (Qg ?_)))))))))))
     apply RetQ.mk
     ·exact (Res.one rfl rfl)
     ·exact ⟨congrArg Value.bool (by exact df (by unfold XN; omega)), rfl⟩
     ·exact Ent.nil _
   ·have hg3 := of_decide_eq_true hg3
    refine Qe rfl rfl rfl (by decide) (Qe rfl rfl rfl (by decide) (Qr rfl rfl rfl (Qc rfl rfl (Qe rfl rfl rfl (by decide) (Qe rfl rfl rfl (by decide) (Qe rfl rfl rfl (by decide) (Qr rfl rfl rfl (Qc rfl rfl (Qe rfl rfl rfl (by decide) (Qe rfl rfl rfl (by decide) (Qe rfl rfl rfl (by decide) (Qr rfl rfl rfl ?_))))))))))))
    refine Qc rfl rfl (Qe rfl rfl rfl (by decide) (Qe rfl rfl rfl (by decide) (Qe rfl rfl rfl (by decide) (Qr rfl rfl rfl (Qc rfl rfl (Qe rfl rfl rfl (by decide) (Qe rfl rfl rfl (by decide) (Qe rfl rfl rfl (by decide) (Qr rfl rfl rfl (WpL.nil (Xg rfl (Qb ?_))))))))))))
    refine Qa (Qd rfl rfl (WpL.nil (Qg ?_)))
    apply RetQ.mk
    ·exact (Res.one rfl rfl)
    ·exact ⟨congrArg Value.bool (by exact df (by unfold XN; omega)), rfl⟩
    ·exact Ent.nil _
  ·have hg2 := of_decide_eq_true hg2
   refine Qe rfl rfl rfl (by decide) (Qe rfl rfl rfl (by decide) (Qr rfl rfl rfl (Qc rfl rfl (Qe rfl rfl rfl (by decide) (Qe rfl rfl rfl (by decide) (Qe rfl rfl rfl (by decide) (Qr rfl rfl rfl (Qc rfl rfl (Qe rfl rfl rfl (by decide) (Qe rfl rfl rfl (by decide) (Qe rfl rfl rfl (by decide) (Qr rfl rfl rfl ?_))))))))))))
   refine Qc rfl rfl (Qe rfl rfl rfl (by decide) (Qe rfl rfl rfl (by decide) (Qe rfl rfl rfl (by decide) (Qr rfl rfl rfl (Qc rfl rfl (Qe rfl rfl rfl (by decide) (Qe rfl rfl rfl (by decide) (Qe rfl rfl rfl (by decide) (Qr rfl rfl rfl (Qc rfl rfl (Qe rfl rfl rfl (by decide) (Qe rfl rfl rfl (by decide) ?_))))))))))))
   refine Qe rfl rfl rfl (by decide) (Qr rfl rfl rfl (WpL.nil (Xg rfl (Qb (Qa (Qd rfl rfl (WpL.nil (Qg ?_))))))))
   apply RetQ.mk
   ·exact (Res.one rfl rfl)
   ·exact ⟨congrArg Value.bool (by exact df (by unfold XN; omega)), rfl⟩
   ·exact Ent.nil _
 ·have hg1 := of_decide_eq_true hg1
  refine Qe rfl rfl rfl (by decide) (Qe rfl rfl rfl (by decide) (Qr rfl rfl rfl (Qc rfl rfl (Qe rfl rfl rfl (by decide) (Qe rfl rfl rfl (by decide) (Qe rfl rfl rfl (by decide) (Qr rfl rfl rfl (Qc rfl rfl (Qe rfl rfl rfl (by decide) (Qe rfl rfl rfl (by decide) (Qe rfl rfl rfl (by decide) (Qr rfl rfl rfl ?_))))))))))))
  refine Qc rfl rfl (Qe rfl rfl rfl (by decide) (Qe rfl rfl rfl (by decide) (Qe rfl rfl rfl (by decide) (Qr rfl rfl rfl (Qc rfl rfl (Qe rfl rfl rfl (by decide) (Qe rfl rfl rfl (by decide) (Qe rfl rfl rfl (by decide) (Qr rfl rfl rfl (Qc rfl rfl (Qe rfl rfl rfl (by decide) (Qe rfl rfl rfl (by decide) ?_))))))))))))
  refine Qe rfl rfl rfl (by decide) (Qr rfl rfl rfl (Qc rfl rfl (Qe rfl rfl rfl (by decide) (Qe rfl rfl rfl (by decide) (Qe rfl rfl rfl (by decide) (Qr rfl rfl rfl (WpL.nil (Xg rfl (Qb (Qa (Qd rfl rfl (WpL.nil ?_))))))))))))
  refine Qg ?_
  apply RetQ.mk
  ·exact (Res.one rfl rfl)
  ·exact ⟨congrArg Value.bool (by exact df (by unfold XN; omega)), rfl⟩
  ·exact Ent.nil _

theorem rMay_spec (K W H M : Int) : Fn Tryz.prog 119 #[.agg #[.int .i64 K, .int .i64 W, .int .i64 H, .int .i64 M]] [] (fun v l => v = .bool (decide (Zz K W H M)) ∧ l = []) := by
 refine Qo (vs := [.agg #[.int .i64 K, .int .i64 W, .int .i64 H, .int .i64 M]]) Tryz.func119 rfl Tryz.ntmps119 rfl (Qb (Qa (Xf rfl rfl rfl ?_)))
 intro g1
 refine Qd rfl rfl (WpL.nil (Qb (Qa ?_)))
 refine Qz (vs := [_, _, _, _]) rfl rfl rfl (by rfl) ?_
 refine Qk rfl rfl (by repeat' constructor) (rMay06_spec _ _ _ _) ?_
 rintro _ _ ⟨rfl, rfl⟩
 simp only [Qv]
 refine Qd rfl rfl (WpL.nil (Qb (Qa (Qc rfl rfl (Qc rfl rfl (QP rfl rfl rfl (fun hg1 => ?_) (fun hg1 => ?_)))))))
 ·have hg1 := of_decide_eq_true hg1
  refine Qj (o2 := 0) rfl rfl rfl (Qf rfl rfl (Qm rfl rfl (by rfl) ?_))
  refine Qf rfl rfl (Xc rfl rfl rfl (Qr rfl rfl rfl (Qd rfl rfl (WpL.nil (Qg ?_)))))
  apply RetQ.mk
  ·exact (Res.one rfl rfl)
  ·exact ⟨congrArg Value.bool (by exact dd (by simp only [Zz, XN] at *; omega)), rfl⟩
  ·exact Ent.nil _
 ·have hg1 := of_decide_eq_false hg1
  refine Qe rfl rfl rfl (by decide) (Qe rfl rfl rfl (by decide) (Qu rfl rfl rfl (Qd rfl rfl (WpL.nil (Qg ?_)))))
  apply RetQ.mk
  ·exact (Res.one rfl rfl)
  ·exact ⟨congrArg Value.bool (by exact df (by simp only [Zz, XN] at *; omega)), rfl⟩
  ·exact Ent.nil _

theorem rNew_spec (K W H M : Int) : Fn Tryz.prog 105 #[.agg #[.int .i64 K, .int .i64 W, .int .i64 H, .int .i64 M]] [] (fun v l => v = .agg #[.int .i64 K, .int .i64 W, .int .i64 H, .int .i64 M, .int .i64 (-1), .slice none 0 0, .slice none 0 0, .int .i64 0, .int .i64 0, .int .i64 0] ∧ l = []) := by
 refine Qo (vs := [.agg #[.int .i64 K, .int .i64 W, .int .i64 H, .int .i64 M]]) Tryz.func105 rfl Tryz.ntmps105 rfl (Qb (Qa (Xf rfl rfl rfl ?_)))
 intro g1
 refine X6 rfl ?_
 intro g2
 refine WpL.nil (Qb (Qa ?_))
 refine Qz (vs := [_, _, _, _]) rfl rfl rfl (by rfl) ?_
 refine Xl rfl rfl ?_
 refine QE rfl rfl rfl (by rfl) rfl ?_
 refine WpL.nil (Qg ?_)
 apply RetQ.mk
 ·exact (Xj rfl rfl (by rfl))
 ·exact ⟨rfl, rfl⟩
 ·exact Ent.nil _

end Go.Proofs.YtggamdlpiejbiaaGreat
namespace Go.Proofs.YtggamdlpiejbiaaGreat
open Go.RowKit Go.Shelf


def Q5 (x m : Int) : Int := (if x < 0 then -(x + 1) else x) % m
theorem Ze {x m : Int} (h : 1 ≤ m) : 0 ≤ Q5 x m ∧ Q5 x m < m := ⟨Int.emod_nonneg _ (by omega), Int.emod_lt_of_pos _ (by omega)⟩
theorem YW (x m : Int) (h0 : -9223372036854775808 ≤ x) (h1 : x < 9223372036854775808) (hm : 1 ≤ m) : Fn Tryz.prog 33 #[.int .i64 x, .int .i64 m] [] (fun v l => v = .int .i64 (Q5 x m) ∧ l = []) := by
 refine Qo (vs := [.int .i64 x, .int .i64 m]) Tryz.func33 rfl Tryz.ntmps33 rfl (Qb (Qa (Qd rfl rfl (WpL.nil (Qb (Qb (Qa (Qc rfl rfl (Xc rfl rfl rfl (WpL.nil (Qh rfl (fun h0 => ?_) (fun h0 => ?_))))))))))))
 ·refine Qa (Qc rfl rfl (Qx rfl rfl rfl (Qp (by omega) (by omega)) ?_))
  refine s_neg rfl rfl (Qp (by omega) (by omega)) ?_
  refine Qd rfl rfl (WpL.nil (Qb (Qa (Qc rfl rfl (Qc rfl rfl (YO rfl rfl rfl (by omega) (by omega) ?_))))))
  refine Qd rfl rfl (WpL.nil (Qg ?_))
  apply RetQ.mk
  ·exact (Res.one rfl rfl)
  ·exact ⟨by rw [Q5, if_pos h0], rfl⟩
  ·exact Ent.refl _
 ·refine Wp.skip (Qb (Qa (Qc rfl rfl (Qc rfl rfl (YO rfl rfl rfl (by omega) (by omega) ?_)))))
  refine Qd rfl rfl (WpL.nil (Qg ?_))
  apply RetQ.mk
  ·exact (Res.one rfl rfl)
  ·exact ⟨by rw [Q5, if_neg h0], rfl⟩
  ·exact Ent.refl _


end Go.Proofs.YtggamdlpiejbiaaGreat
namespace Go.Proofs.YtggamdlpiejbiaaGreat
open Go.RowKit Go.Shelf



theorem endR_last {K W H : Int} {s : RS} : (Yd K W H s).1.last ≠ 0 := by
  unfold Yd
  split
  · assumption
  · split
    · simp [Zm]
    · assumption
theorem RInv.zero {ch : Int} {k m : Nat} {s : RS} (h : RInv ch k m s) : RInv ch k 0 s := ⟨h.1, by have := h.2.1; omega, h.2.2⟩
end Go.Proofs.YtggamdlpiejbiaaGreat
