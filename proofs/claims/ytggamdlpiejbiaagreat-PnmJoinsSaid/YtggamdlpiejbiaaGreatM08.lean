/- Walks and plain laws, a part of the proof of PnmJoins: every input that the law's guards let in, no condition beside. -/
import Derived.Test.YtggamdlpiejbiaaGreatM07
namespace Go.Proofs.YtggamdlpiejbiaaGreat
open Go.RowKit Go.Shelf


theorem Ent.nil2 {T s : Nat} {l : List HP} {A B : HP} (h : Ent l [A, B]) : Ent l [A, QG T s none 0 0 [], B] := (Ent.own_nil h).trans Ent.swap
/-- Samples that a pixel has. -/
def QW (K : Int) : Int := if K % 3 = 0 then 3 else 1

def XE (ch : Int) (one row : List Int) (x : Int) : List Int × List Int := if (((one ++ [x]).length : Nat) : Int) = ch then ([], row ++ [(Xx (one ++ [x])).1]) else (one ++ [x], row)

theorem sample_spec (g : Nat) (K W H M n rows last e : Int) (stp : Value) [OneC stp] (a1 a2 : Option Addr) (c1 c2 : Nat) (one row : List Int) (x : Int) (hK : 0 ≤ K) (h1 : one.length ≤ 3) (h2 : row.length ≤ 1000000000000) : Fn Tryz.prog 164 #[.pointer (some ⟨g, 0, none⟩), .int .i64 x] [QA g [.int .i64 K, .int .i64 W, .int .i64 H, .int .i64 M, stp, .int .i64 n, .slice a1 one.length c1, .slice a2 row.length c2, .int .i64 rows, .int .i64 last, .int .i64 e] 186, QG 3 1 a1 c1 (one).length (QY one), QG 92 1 a2 c2 (row).length (Xp row)] (fun v l => v = .tuple #[] ∧ ∃ a1 c1 a2 c2, l = [QA g [.int .i64 K, .int .i64 W, .int .i64 H, .int .i64 M, stp, .int .i64 n, .slice a1 (XE (QW K) one row x).1.length c1, .slice a2 (XE (QW K) one row x).2.length c2, .int .i64 rows, .int .i64 last, .int .i64 e] 186, QG 3 1 a1 c1 ((XE (QW K) one row x).1).length (QY (XE (QW K) one row x).1), QG 92 1 a2 c2 ((XE (QW K) one row x).2).length (Xp (XE (QW K) one row x).2)]) := by
 refine Qk (vs := [.pointer (some ⟨g, 0, none⟩), .int .i64 x]) Tryz.func164 rfl Tryz.ntmps164 rfl ?_
 refine Qb (Qa (Qc rfl rfl (Qc rfl rfl (Qq rfl rfl (Qj (o2 := 6) rfl rfl rfl (Qo rfl rfl (by rfl) ?_))))))
 refine Qc rfl rfl ?_
 refine Yb rfl rfl rfl rfl ?_
 intro g1
 refine XA rfl rfl rfl (by repeat' constructor) (by rfl) (by rfl) (by rfl) (by rfl) (by omega) (by omega) ?_
 intro a13 c13
 rw [Yz, show one.length + 1 = (one ++ [x]).length from by simp]
 refine Qq rfl rfl (Qj (o2 := 6) rfl rfl rfl (Q3 rfl rfl rfl (WpL.nil (Qb ?_))))
 apply Q0 mixed [⟨16, _, []⟩, ⟨17, _, [0]⟩, ⟨18, _, [1]⟩, ⟨19, _, [2]⟩, ⟨20, _, [3]⟩, ⟨21, _, []⟩, ⟨22, _, [5]⟩, ⟨23, _, [6]⟩, ⟨24, _, [7]⟩, ⟨25, _, [8]⟩, ⟨26, _, [9]⟩, ⟨27, _, [4, 10]⟩] rfl
 ·refine AllObs.mk ?_ ?_
  ·exact Qc rfl rfl (Qm rfl)
  refine AllObs.mk ?_ ?_
  ·exact Qq rfl rfl (Qm rfl)
  refine AllObs.mk ?_ ?_
  ·exact Qj (o2 := 6) rfl rfl rfl (Qm rfl)
  refine AllObs.mk ?_ ?_
  ·refine Qo rfl rfl (by rfl) ?_
   exact Qm rfl
  refine AllObs.mk ?_ ?_
  ·exact QC rfl rfl (WpL.nil ⟨rfl, rfl, rfl, by exact Ent.refl _⟩)
  refine AllObs.mk ?_ ?_
  ·exact Qc rfl rfl (Qm rfl)
  refine AllObs.mk ?_ ?_
  ·exact Qq rfl rfl (Qm rfl)
  refine AllObs.mk ?_ ?_
  ·exact Qj (o2 := 0) rfl rfl rfl (Qm rfl)
  refine AllObs.mk ?_ ?_
  ·refine QI (vs := [_, _, _, _]) rfl rfl rfl (by rfl) ?_
   exact Qm rfl
  refine AllObs.mk ?_ ?_
  ·refine Qh rfl rfl (by repeat' constructor) (XJ _ _ _ _ (by omega)) ?_
   rintro _ _ ⟨rfl, rfl⟩
   simp only [Qr]
   exact WpL.nil ⟨rfl, rfl, rfl, by exact Ent.refl _⟩
  refine AllObs.mk ?_ ?_
  ·exact s_fv rfl rfl rfl (Qm rfl)
  refine AllObs.mk ?_ ?_
  ·exact QN rfl rfl rfl (Qm rfl)
  exact AllObs.nil
 ·refine Ql rfl (fun h0 => ?_) (fun h0 => ?_)
  ·refine Qb (Qa (Qc rfl rfl (Qq rfl rfl (Qj (o2 := 6) rfl rfl rfl (Qo rfl rfl (by rfl) ?_)))))
   refine Qh rfl rfl (by repeat' constructor) (Pack_spec [_] a13 c13 (one ++ [x]) QE (by simp; omega)) ?_
   rintro _ _ ⟨rfl, rfl⟩
   simp only [Qr]
   refine Qc rfl rfl (QH rfl rfl rfl (QH rfl rfl rfl (Qe rfl rfl (Qe rfl rfl (WpL.nil (Qa (Qc rfl rfl (Qc rfl rfl (Qc rfl rfl (Qq rfl rfl (Qj (o2 := 7) rfl rfl rfl (Qo rfl rfl (by rfl) ?_))))))))))))
   refine Qc rfl rfl ?_
   refine Yb rfl rfl rfl rfl ?_
   intro g2
   refine XA rfl rfl rfl (by repeat' constructor) (by rfl) (by rfl) (by rfl) (by rfl) (by omega) (by omega) ?_
   intro a44 c44
   rw [pxs_snoc, show row.length + 1 = (row ++ [(Xx (one ++ [x])).1]).length from by simp]
   refine Qq rfl rfl (Qj (o2 := 7) rfl rfl rfl (Q3 rfl rfl rfl (Qq rfl rfl (Qj (o2 := 6) rfl rfl rfl (Q3 rfl rfl rfl (WpL.nil ?_))))))
   apply YK
   ·exact (XZ rfl)
   ·have hs : XE (QW K) one row x = ([], row ++ [(Xx (one ++ [x])).1]) := if_pos h0
    exact ⟨rfl, none, 0, a44, c44, by rw [hs]⟩
   ·exact Ent.nil2 (Take.ent' (by repeat' constructor))
  ·refine Wp.skip ?_
   apply YK
   ·exact (XZ rfl)
   ·have hs : XE (QW K) one row x = (one ++ [x], row) := if_neg h0
    exact ⟨rfl, a13, c13, a2, c2, by rw [hs]⟩
   ·exact Take.ent' (by repeat' constructor)


structure RS where
  (n : Int) (one row : List Int) (rows last e : Int)
def YL (ch : Int) (s : RS) (x : Int) : RS := ⟨s.n, (XE ch s.one s.row x).1, (XE ch s.one s.row x).2, s.rows, s.last, s.e⟩
def YA (ch : Int) (s : RS) : RS := if s.n = -1 then s else ⟨-1, (XE ch s.one s.row s.n).1, (XE ch s.one s.row s.n).2, s.rows, s.last, s.e⟩
def Xo (n c M : Int) : Int × Int := if c < 48 ∨ c > 57 then (0, 3) else if c - 48 > M ∨ n > (M - (c - 48)) / 10 then (0, 4) else (10 * n + (c - 48), 0)
def bitR (ch : Int) (s : RS) (c : Int) : RS × Int := if Q6 c = true then (s, 0) else if c ≠ 48 ∧ c ≠ 49 then (s, 3) else (YL ch s (c - 48), 0)
def Z2 (ch M : Int) (s : RS) (c : Int) : RS × Int := if Q6 c = true then (YA ch s, 0) else if (Xo (max s.n 0) c M).2 = 4 then (s, 5) else if (Xo (max s.n 0) c M).2 = 0 then (⟨(Xo (max s.n 0) c M).1, s.one, s.row, s.rows, s.last, s.e⟩, 0) else (s, (Xo (max s.n 0) c M).2)
def XB (W H : Int) (s : RS) : RS × List Int := if (s.row.length : Int) < W then (s, []) else (⟨s.n, s.one, [], s.rows + 1, if s.rows + 1 = H then 1 else s.last, s.e⟩, s.row)
def wrongR (s : RS) (e : Int) : RS := ⟨s.n, s.one, s.row, s.rows, 2, e⟩
def XW (K M : Int) (s : RS) (c : Int) : RS × Int := if K = 1 then bitR (QW K) s c else Z2 (QW K) M s c
def XH (K W H M : Int) (s : RS) (c : Int) : RS × List Int := if s.last ≠ 0 then (s, []) else if (XW K M s c).2 ≠ 0 then (wrongR (XW K M s c).1 (XW K M s c).2, []) else XB W H (XW K M s c).1
def Yd (K W H : Int) (s : RS) : RS × List Int := if s.last ≠ 0 then (s, []) else if (XB W H (YA (QW K) s)).1.last = 0 then (wrongR (XB W H (YA (QW K) s)).1 6, (XB W H (YA (QW K) s)).2) else XB W H (YA (QW K) s)

theorem ends_spec (g : Nat) (K W H M n rows last e : Int) (stp : Value) [OneC stp] (a1 a2 : Option Addr) (c1 c2 : Nat) (one row : List Int) (hK : 0 ≤ K) (h1 : one.length ≤ 3) (h2 : row.length ≤ 1000000000000) : Fn Tryz.prog 114 #[.pointer (some ⟨g, 0, none⟩)] [QA g [.int .i64 K, .int .i64 W, .int .i64 H, .int .i64 M, stp, .int .i64 n, .slice a1 one.length c1, .slice a2 row.length c2, .int .i64 rows, .int .i64 last, .int .i64 e] 186, QG 3 1 a1 c1 (one).length (QY one), QG 92 1 a2 c2 (row).length (Xp row)] (fun v l => v = .tuple #[] ∧ ∃ n' one' row' rows' last' e' a1 c1 a2 c2, (⟨n', one', row', rows', last', e'⟩ : RS) = YA (QW K) ⟨n, one, row, rows, last, e⟩ ∧ l = [QA g [.int .i64 K, .int .i64 W, .int .i64 H, .int .i64 M, stp, .int .i64 n', .slice a1 one'.length c1, .slice a2 row'.length c2, .int .i64 rows', .int .i64 last', .int .i64 e'] 186, QG 3 1 a1 c1 (one').length (QY one'), QG 92 1 a2 c2 (row').length (Xp row')]) := by
 refine Qk (vs := [.pointer (some ⟨g, 0, none⟩)]) Tryz.func114 rfl Tryz.ntmps114 rfl ?_
 refine Qb (Qa (Qc rfl rfl (Qq rfl rfl (Qj (o2 := 5) rfl rfl rfl (Qo rfl rfl (by rfl) ?_)))))
 refine Xn rfl rfl rfl (WpL.nil (Ql rfl (fun h0 => ?_) (fun h0 => ?_)))
 ·refine Qb (Qa (Qc rfl rfl (Qc rfl rfl (Qq rfl rfl (Qj (o2 := 5) rfl rfl rfl (Qo rfl rfl (by rfl) ?_))))))
  refine Qh rfl rfl (by repeat' constructor) (sample_spec _ _ _ _ _ _ _ _ _ _ _ _ _ _ _ _ _ (by omega) (by omega) (by omega)) ?_
  rintro _ _ ⟨rfl, a1, c1, a2, c2, rfl⟩
  simp only [Qr]
  refine WpL.nil (Qa (Qc rfl rfl (Qq rfl rfl (Qj (o2 := 5) rfl rfl rfl (Q3 rfl rfl rfl (WpL.nil ?_))))))
  apply YK
  ·exact (XZ rfl)
  ·exact ⟨rfl, _, _, _, _, _, _, a1, c1, a2, c2, (if_neg h0).symm, rfl⟩
  ·exact Ent.refl _
 ·refine Wp.skip ?_
  apply YK
  ·exact (XZ rfl)
  ·exact ⟨rfl, _, _, _, _, _, _, a1, c1, a2, c2, (if_pos (by omega : n = -1)).symm, rfl⟩
  ·exact Ent.refl _

theorem Step_spec (n c M : Int) (h0 : 0 ≤ c) (h1 : c ≤ 255) (hn : 0 ≤ n) (hM : 0 ≤ M) (hN : M ≤ 2 ^ 60) : Fn Tryz.prog 196 #[.int .i64 n, .int .u8 c, .int .i64 M] [] (fun v l => v = .tuple #[.int .i64 (Xo n c M).1, .int .i64 (Xo n c M).2] ∧ l = []) := by
 refine Qk (vs := [.int .i64 n, .int .u8 c, .int .i64 M]) Tryz.func196 rfl Tryz.ntmps196 rfl (Qb (Qa (Qe rfl rfl (Qe rfl rfl (WpL.nil (Qb (Qa (Qc rfl rfl (Yg rfl Tryz.underlying5 rfl (Qu (by omega) (by omega)) ?_)))))))))
 refine ZQ rfl rfl rfl (Qu (by omega) (by omega)) ?_
 refine Qe rfl rfl (WpL.nil (Qb (Wp.block ?_)))
 refine Qb (Qa (Qc rfl rfl (Q7 rfl rfl rfl (Qc rfl rfl (QK rfl rfl rfl (fun hg1 => ?_) (fun hg1 => ?_))))))
 ·have hg1 := of_decide_eq_false hg1
  refine Qc rfl rfl (Qf rfl rfl (Zm rfl rfl rfl (Qs rfl rfl rfl (Qe rfl rfl (WpL.nil (Ql rfl (fun h0 => ?_) (fun h0 => ?_)))))))
  ·refine Qb (Qa (Qe rfl rfl (Qe rfl rfl (WpL.nil (Qi ?_)))))
   apply RetQ.mk
   ·exact (QB rfl rfl rfl)
   ·have e : Xo n c M = (0, 3) := by
     unfold Xo
     repeat' split
     all_goals first | rfl | (exfalso; omega)
    rw [e]
    exact ⟨rfl, rfl⟩
   ·exact Ent.refl _
  ·refine Qb (Qa (Qc rfl rfl (Qc rfl rfl (Zm rfl rfl rfl (Qc rfl rfl (QK rfl rfl rfl (fun hg2 => ?_) (fun hg2 => ?_)))))))
   ·have hg2 := of_decide_eq_false hg2
    refine Qc rfl rfl (Qf rfl rfl (Qc rfl rfl (Qf rfl rfl (Qc rfl rfl (Qf rfl rfl (ZQ rfl rfl rfl (Qu (by omega) (by omega)) ?_))))))
    refine Qf rfl rfl (ZG rfl rfl rfl (by omega) (by omega) (Qu (by omega) (by omega)) ?_)
    refine Qf rfl rfl (Zm rfl rfl rfl (Qs rfl rfl rfl (Qe rfl rfl (WpL.nil (Ql rfl (fun h1 => ?_) (fun h1 => ?_))))))
    ·refine Qb (Qa (Qe rfl rfl (Qe rfl rfl (WpL.nil (Qi ?_)))))
     apply RetQ.mk
     ·exact (QB rfl rfl rfl)
     ·have e : Xo n c M = (0, 4) := by
       unfold Xo
       repeat' split
       all_goals first | rfl | (exfalso; omega)
      rw [e]
      exact ⟨rfl, rfl⟩
     ·exact Ent.refl _
    ·refine Wp.skip (Qb (Qa (Qc rfl rfl (XK rfl rfl rfl (Qu (by omega) (by omega)) ?_))))
     refine Qc rfl rfl (QD rfl rfl rfl (Qu (by omega) (by omega)) ?_)
     refine Qe rfl rfl (Qe rfl rfl (WpL.nil (Qi ?_)))
     apply RetQ.mk
     ·exact (QB rfl rfl rfl)
     ·have e : Xo n c M = (10 * n + (c - 48), 0) := by
       unfold Xo
       repeat' split
       all_goals first | rfl | (exfalso; omega)
      rw [e]
      exact ⟨rfl, rfl⟩
     ·exact Ent.refl _
   ·have hg2 := of_decide_eq_true hg2
    refine Qd rfl rfl rfl (by decide) (Qd rfl rfl rfl (by decide) (Qd rfl rfl rfl (by decide) (Qd rfl rfl rfl (by decide) (Qd rfl rfl rfl (by decide) (Qt rfl rfl rfl (Qe rfl rfl (WpL.nil (Xc rfl (Qb (Qa (Qe rfl rfl (Qe rfl rfl ?_))))))))))))
    refine WpL.nil (Qi ?_)
    apply RetQ.mk
    ·exact (QB rfl rfl rfl)
    ·have e : Xo n c M = (0, 4) := by
      unfold Xo
      repeat' split
      all_goals first | rfl | (exfalso; omega)
     rw [e]
     exact ⟨rfl, rfl⟩
    ·exact Ent.refl _
 ·have hg1 := of_decide_eq_true hg1
  refine Qd rfl rfl rfl (by decide) (Qt rfl rfl rfl (Qe rfl rfl (WpL.nil (Xc rfl (Qb (Qa (Qe rfl rfl (Qe rfl rfl (WpL.nil (Qi ?_))))))))))
  apply RetQ.mk
  ·exact (QB rfl rfl rfl)
  ·have e : Xo n c M = (0, 3) := by
    unfold Xo
    repeat' split
    all_goals first | rfl | (exfalso; omega)
   rw [e]
   exact ⟨rfl, rfl⟩
  ·exact Ent.refl _

theorem bit_spec (g : Nat) (K W H M n rows last e : Int) (stp : Value) [OneC stp] (a1 a2 : Option Addr) (c1 c2 : Nat) (one row : List Int) (hK : 0 ≤ K) (h1 : one.length ≤ 3) (h2 : row.length ≤ 1000000000000) (c : Int) (hc : 0 ≤ c) (hc2 : c ≤ 255) : Fn Tryz.prog 170 #[.pointer (some ⟨g, 0, none⟩), .int .u8 c] [QA g [.int .i64 K, .int .i64 W, .int .i64 H, .int .i64 M, stp, .int .i64 n, .slice a1 one.length c1, .slice a2 row.length c2, .int .i64 rows, .int .i64 last, .int .i64 e] 186, QG 3 1 a1 c1 (one).length (QY one), QG 92 1 a2 c2 (row).length (Xp row)] (fun v l => v = .int .i64 (bitR (QW K) ⟨n, one, row, rows, last, e⟩ c).2 ∧ ∃ n' one' row' rows' last' e' a1 c1 a2 c2, (⟨n', one', row', rows', last', e'⟩ : RS) = (bitR (QW K) ⟨n, one, row, rows, last, e⟩ c).1 ∧ l = [QA g [.int .i64 K, .int .i64 W, .int .i64 H, .int .i64 M, stp, .int .i64 n', .slice a1 one'.length c1, .slice a2 row'.length c2, .int .i64 rows', .int .i64 last', .int .i64 e'] 186, QG 3 1 a1 c1 (one').length (QY one'), QG 92 1 a2 c2 (row').length (Xp row')]) := by
 refine Qk (vs := [.pointer (some ⟨g, 0, none⟩), .int .u8 c]) Tryz.func170 rfl Tryz.ntmps170 rfl ?_
 refine Qb (Qa (Qe rfl rfl (WpL.nil (Qb (Wp.block ?_)))))
 refine Qb (Qa (Qc rfl rfl (Qh rfl rfl (by repeat' constructor) (Yh _ (by omega) (by omega)) ?_)))
 rintro _ _ ⟨rfl, rfl⟩
 simp only [Qr]
 refine Qe rfl rfl (WpL.nil (X5 rfl (fun h0 => ?_) (fun h0 => ?_)))
 ·refine Qb (Qa (Qe rfl rfl (WpL.nil (Qi ?_))))
  apply RetQ.mk
  ·exact (Res.one rfl rfl)
  ·have e : bitR (QW K) ⟨n, one, row, rows, last, e⟩ c = (⟨n, one, row, rows, last, e⟩, 0) := by
    unfold bitR
    repeat' split
    all_goals rfl
   rw [e]
   exact ⟨rfl, _, _, _, _, _, _, a1, c1, a2, c2, rfl, rfl⟩
  ·exact Ent.refl _
 ·refine Qb (Qa (Qc rfl rfl (Xn rfl rfl rfl (Qc rfl rfl (QK rfl rfl rfl (fun hg1 => ?_) (fun hg1 => ?_))))))
  ·have hg1 := of_decide_eq_true hg1
   refine Qc rfl rfl (Qf rfl rfl (Xn rfl rfl rfl (Qt rfl rfl rfl (Qe rfl rfl (WpL.nil (Ql rfl (fun h1 => ?_) (fun h1 => ?_)))))))
   ·refine Qb (Qa (Qe rfl rfl (WpL.nil (Qi ?_))))
    apply RetQ.mk
    ·exact (Res.one rfl rfl)
    ·have e : bitR (QW K) ⟨n, one, row, rows, last, e⟩ c = (⟨n, one, row, rows, last, e⟩, 3) := by
      unfold bitR
      repeat' split
      all_goals first | rfl | (exfalso; omega) | (exfalso; simp_all; done)
     rw [e]
     exact ⟨rfl, _, _, _, _, _, _, a1, c1, a2, c2, rfl, rfl⟩
    ·exact Ent.refl _
   ·refine Wp.skip (Qb (Qa (Qc rfl rfl (Qc rfl rfl (ZQ rfl rfl rfl (w_u8 (by omega) (by omega)) ?_)))))
    refine Yg rfl Tryz.underlying5 rfl (Qu (by omega) (by omega)) ?_
    refine Qh rfl rfl (by repeat' constructor) (sample_spec _ _ _ _ _ _ _ _ _ _ _ _ _ _ _ _ _ (by omega) (by omega) (by omega)) ?_
    rintro _ _ ⟨rfl, a1, c1, a2, c2, rfl⟩
    simp only [Qr]
    refine WpL.nil (Qb (Qa (Qe rfl rfl (WpL.nil (Qi ?_)))))
    apply RetQ.mk
    ·exact (Res.one rfl rfl)
    ·have e : bitR (QW K) ⟨n, one, row, rows, last, e⟩ c = (⟨n, (XE (QW K) one row (c - 48)).1, (XE (QW K) one row (c - 48)).2, rows, last, e⟩, 0) := by
      unfold bitR
      repeat' split
      all_goals first | rfl | (exfalso; omega) | (exfalso; simp_all; done)
     rw [e]
     exact ⟨rfl, _, _, _, _, _, _, a1, c1, a2, c2, rfl, rfl⟩
    ·exact Ent.refl _
  ·have hg1 := of_decide_eq_false hg1
   refine Qd rfl rfl rfl (by decide) (Qs rfl rfl rfl (Qe rfl rfl (WpL.nil (QZ rfl (Wp.skip (Qb (Qa (Qc rfl rfl (Qc rfl rfl (ZQ rfl rfl rfl (w_u8 (by omega) (by omega)) ?_))))))))))
   refine Yg rfl Tryz.underlying5 rfl (Qu (by omega) (by omega)) ?_
   refine Qh rfl rfl (by repeat' constructor) (sample_spec _ _ _ _ _ _ _ _ _ _ _ _ _ _ _ _ _ (by omega) (by omega) (by omega)) ?_
   rintro _ _ ⟨rfl, a1, c1, a2, c2, rfl⟩
   simp only [Qr]
   refine WpL.nil (Qb (Qa (Qe rfl rfl (WpL.nil (Qi ?_)))))
   apply RetQ.mk
   ·exact (Res.one rfl rfl)
   ·have e : bitR (QW K) ⟨n, one, row, rows, last, e⟩ c = (⟨n, (XE (QW K) one row (c - 48)).1, (XE (QW K) one row (c - 48)).2, rows, last, e⟩, 0) := by
     unfold bitR
     repeat' split
     all_goals first | rfl | (exfalso; omega) | (exfalso; simp_all; done)
    rw [e]
    exact ⟨rfl, _, _, _, _, _, _, a1, c1, a2, c2, rfl, rfl⟩
   ·exact Ent.refl _

theorem number_spec (g : Nat) (K W H M n rows last e : Int) (stp : Value) [OneC stp] (a1 a2 : Option Addr) (c1 c2 : Nat) (one row : List Int) (hK : 0 ≤ K) (h1 : one.length ≤ 3) (h2 : row.length ≤ 1000000000000) (c : Int) (hc : 0 ≤ c) (hc2 : c ≤ 255) (hM : 0 ≤ M) (hN : M ≤ 2 ^ 60) : Fn Tryz.prog 169 #[.pointer (some ⟨g, 0, none⟩), .int .u8 c] [QA g [.int .i64 K, .int .i64 W, .int .i64 H, .int .i64 M, stp, .int .i64 n, .slice a1 one.length c1, .slice a2 row.length c2, .int .i64 rows, .int .i64 last, .int .i64 e] 186, QG 3 1 a1 c1 (one).length (QY one), QG 92 1 a2 c2 (row).length (Xp row)] (fun v l => v = .int .i64 (Z2 (QW K) M ⟨n, one, row, rows, last, e⟩ c).2 ∧ ∃ n' one' row' rows' last' e' a1 c1 a2 c2, (⟨n', one', row', rows', last', e'⟩ : RS) = (Z2 (QW K) M ⟨n, one, row, rows, last, e⟩ c).1 ∧ l = [QA g [.int .i64 K, .int .i64 W, .int .i64 H, .int .i64 M, stp, .int .i64 n', .slice a1 one'.length c1, .slice a2 row'.length c2, .int .i64 rows', .int .i64 last', .int .i64 e'] 186, QG 3 1 a1 c1 (one').length (QY one'), QG 92 1 a2 c2 (row').length (Xp row')]) := by
 refine Qk (vs := [.pointer (some ⟨g, 0, none⟩), .int .u8 c]) Tryz.func169 rfl Tryz.ntmps169 rfl ?_
 refine Qb (Qa (Qe rfl rfl (WpL.nil (Qb (Qb (Qa (Qc rfl rfl (Qh rfl rfl (by repeat' constructor) (Yh _ (by omega) (by omega)) ?_))))))))
 rintro _ _ ⟨rfl, rfl⟩
 simp only [Qr]
 refine WpL.nil (X5 rfl (fun h0 => ?_) (fun h0 => ?_))
 ·refine Qb (Qa (Qc rfl rfl (Qh rfl rfl (by repeat' constructor) (ends_spec _ _ _ _ _ _ _ _ _ _ _ _ _ _ _ _ (by omega) (by omega) (by omega)) ?_)))
  rintro _ _ ⟨rfl, n', one', row', rows', last', e', a1, c1, a2, c2, hs, rfl⟩
  simp only [Qr]
  refine WpL.nil (Qb (Qa (Qe rfl rfl (WpL.nil (Qi ?_)))))
  apply RetQ.mk
  ·exact (Res.one rfl rfl)
  ·have e : Z2 (QW K) M ⟨n, one, row, rows, last, e⟩ c = (YA (QW K) ⟨n, one, row, rows, last, e⟩, 0) := by
    unfold Z2
    repeat' split
    all_goals rfl
   rw [e]
   exact ⟨rfl, _, _, _, _, _, _, a1, c1, a2, c2, hs, rfl⟩
  ·exact Ent.refl _
 ·refine Wp.skip (Qb ?_)
  apply Q0 mixed [⟨12, _, []⟩, ⟨13, _, [0]⟩, ⟨14, _, [1]⟩, ⟨15, _, [2]⟩, ⟨16, _, [3]⟩, ⟨17, _, []⟩, ⟨18, _, []⟩, ⟨19, _, [6]⟩, ⟨20, _, [7]⟩, ⟨21, _, [8]⟩, ⟨22, _, [9]⟩, ⟨23, _, [4, 5, 10]⟩, ⟨11, _, [11]⟩, ⟨24, _, [12]⟩, ⟨25, _, [12]⟩, ⟨5, _, [13, 11, 0, 1, 2, 3, 4, 5, 6, 7, 8, 9, 10, 12]⟩, ⟨6, _, [14, 15, 0, 1, 2, 3, 4, 5, 6, 7, 8, 9, 10, 11, 12, 13]⟩] rfl
  ·refine AllObs.mk ?_ ?_
   ·exact Qc rfl rfl (Qm rfl)
   refine AllObs.mk ?_ ?_
   ·exact Qq rfl rfl (Qm rfl)
   refine AllObs.mk ?_ ?_
   ·exact Qj (o2 := 5) rfl rfl rfl (Qm rfl)
   refine AllObs.mk ?_ ?_
   ·refine Qo rfl rfl (by rfl) ?_
    exact Qm rfl
   refine AllObs.mk ?_ ?_
   ·exact s_max2 rfl rfl rfl (WpL.nil ⟨rfl, rfl, rfl, by exact Ent.refl _⟩)
   refine AllObs.mk ?_ ?_
   ·exact Qc rfl rfl (Qm rfl)
   refine AllObs.mk ?_ ?_
   ·exact Qc rfl rfl (Qm rfl)
   refine AllObs.mk ?_ ?_
   ·exact Qq rfl rfl (Qm rfl)
   refine AllObs.mk ?_ ?_
   ·exact Qj (o2 := 0) rfl rfl rfl (Qm rfl)
   refine AllObs.mk ?_ ?_
   ·exact Qj (o2 := 3) rfl rfl rfl (Qm rfl)
   refine AllObs.mk ?_ ?_
   ·refine Qo rfl rfl (by rfl) ?_
    exact Qm rfl
   refine AllObs.mk ?_ ?_
   ·refine Qh rfl rfl (by repeat' constructor) (Step_spec _ _ _ (by omega) (by omega) (by omega) (by omega) (by omega)) ?_
    rintro _ _ ⟨rfl, rfl⟩
    simp only [Qr]
    exact WpL.nil ⟨rfl, rfl, rfl, by exact Ent.refl _⟩
   refine AllObs.mk ?_ ?_
   ·exact Qc rfl rfl (Qm rfl)
   refine AllObs.mk ?_ ?_
   ·exact QH rfl rfl rfl (Qm rfl)
   refine AllObs.mk ?_ ?_
   ·exact QH rfl rfl rfl (Qm rfl)
   refine AllObs.mk ?_ ?_
   ·exact Qe rfl rfl (Qm rfl)
   refine AllObs.mk ?_ ?_
   ·exact Qe rfl rfl (Qm rfl)
   exact AllObs.nil
  ·refine Qb (Qb (Qa (Qc rfl rfl (WpL.nil (Wp.block ?_)))))
   refine Qb (Qa (QN rfl rfl rfl (Qe rfl rfl (WpL.nil (Ql rfl (fun h1 => ?_) (fun h1 => ?_))))))
   ·refine Qb (Qa (Qe rfl rfl (WpL.nil (Qi ?_))))
    apply RetQ.mk
    ·exact (Res.one rfl rfl)
    ·have e : Z2 (QW K) M ⟨n, one, row, rows, last, e⟩ c = (⟨n, one, row, rows, last, e⟩, 5) := by
      unfold Z2
      repeat' split
      all_goals first | rfl | (exfalso; simp_all; done)
     rw [e]
     exact ⟨rfl, _, _, _, _, _, _, a1, c1, a2, c2, rfl, rfl⟩
    ·exact Ent.refl _
   ·refine Qb (Qa (QN rfl rfl rfl (Qe rfl rfl (WpL.nil (Ql rfl (fun h2 => ?_) (fun h2 => ?_))))))
    ·refine Qa (Qc rfl rfl (Qc rfl rfl (Qq rfl rfl (Qj (o2 := 5) rfl rfl rfl (Q3 rfl rfl rfl (WpL.nil (Qb (Qa (Qc rfl rfl (Qe rfl rfl (WpL.nil (Qi ?_))))))))))))
     apply RetQ.mk
     ·exact (Res.one rfl rfl)
     ·have e : Z2 (QW K) M ⟨n, one, row, rows, last, e⟩ c = (⟨(Xo (max n 0) c M).1, one, row, rows, last, e⟩, (Xo (max n 0) c M).2) := by
       unfold Z2
       repeat' split
       all_goals first | (exfalso; simp_all; done) | (simp_all; done)
      rw [e]
      exact ⟨rfl, _, _, _, _, _, _, a1, c1, a2, c2, rfl, rfl⟩
     ·exact Ent.refl _
    ·refine Wp.skip (Qb (Qa (Qc rfl rfl (Qe rfl rfl (WpL.nil (Qi ?_))))))
     apply RetQ.mk
     ·exact (Res.one rfl rfl)
     ·have e : Z2 (QW K) M ⟨n, one, row, rows, last, e⟩ c = (⟨n, one, row, rows, last, e⟩, (Xo (max n 0) c M).2) := by
       unfold Z2
       repeat' split
       all_goals first | rfl | (exfalso; simp_all; done)
      rw [e]
      exact ⟨rfl, _, _, _, _, _, _, a1, c1, a2, c2, rfl, rfl⟩
     ·exact Ent.refl _

theorem wrong_spec (g : Nat) (K W H M n rows last e : Int) (stp : Value) [OneC stp] (a1 a2 : Option Addr) (c1 c2 : Nat) (one row : List Int) (x : Int) : Fn Tryz.prog 171 #[.pointer (some ⟨g, 0, none⟩), .int .i64 x] [QA g [.int .i64 K, .int .i64 W, .int .i64 H, .int .i64 M, stp, .int .i64 n, .slice a1 one.length c1, .slice a2 row.length c2, .int .i64 rows, .int .i64 last, .int .i64 e] 186, QG 3 1 a1 c1 (one).length (QY one), QG 92 1 a2 c2 (row).length (Xp row)] (fun v l => v = .tuple #[.slice none 0 0, .int .i64 2] ∧ ∃ n' one' row' rows' last' e' a1 c1 a2 c2, (⟨n', one', row', rows', last', e'⟩ : RS) = wrongR ⟨n, one, row, rows, last, e⟩ x ∧ l = [QA g [.int .i64 K, .int .i64 W, .int .i64 H, .int .i64 M, stp, .int .i64 n', .slice a1 one'.length c1, .slice a2 row'.length c2, .int .i64 rows', .int .i64 last', .int .i64 e'] 186, QG 3 1 a1 c1 (one').length (QY one'), QG 92 1 a2 c2 (row').length (Xp row')]) := by
 refine Qk (vs := [.pointer (some ⟨g, 0, none⟩), .int .i64 x]) Tryz.func171 rfl Tryz.ntmps171 rfl ?_
 refine Qb (Qa (Qe rfl rfl (Qe rfl rfl (WpL.nil (Qb (Qa (Qc rfl rfl (Qc rfl rfl (Qc rfl rfl (Qq rfl rfl (Qj (o2 := 10) rfl rfl rfl (Q3 rfl rfl rfl ?_))))))))))))
 refine Qq rfl rfl (Qj (o2 := 9) rfl rfl rfl (Q3 rfl rfl rfl (WpL.nil (Qb ?_))))
 apply Q0 mixed [⟨13, _, []⟩, ⟨14, _, [0]⟩, ⟨15, _, [1]⟩, ⟨16, _, [2]⟩, ⟨4, _, []⟩, ⟨5, _, [3, 4, 0, 1, 2]⟩] rfl
 ·refine AllObs.mk ?_ ?_
  ·exact Qc rfl rfl (Qm rfl)
  refine AllObs.mk ?_ ?_
  ·exact Qq rfl rfl (Qm rfl)
  refine AllObs.mk ?_ ?_
  ·exact Qj (o2 := 9) rfl rfl rfl (Qm rfl)
  refine AllObs.mk ?_ ?_
  ·refine Qo rfl rfl (by rfl) ?_
   exact Qm rfl
  refine AllObs.mk ?_ ?_
  ·exact Qe rfl rfl (Qm rfl)
  refine AllObs.mk ?_ ?_
  ·exact Qe rfl rfl (Qm rfl)
  exact AllObs.nil
 ·refine Qi ?_
  apply RetQ.mk
  ·exact (QB rfl rfl rfl)
  ·exact ⟨rfl, _, _, _, _, _, _, a1, c1, a2, c2, rfl, rfl⟩
  ·exact Ent.refl _

theorem full_spec (g : Nat) (K W H M n rows last e : Int) (stp : Value) [OneC stp] (a1 a2 : Option Addr) (c1 c2 : Nat) (one row : List Int) (h3 : 0 ≤ rows) (h4 : rows ≤ 2 ^ 60) : Fn Tryz.prog 115 #[.pointer (some ⟨g, 0, none⟩)] [QA g [.int .i64 K, .int .i64 W, .int .i64 H, .int .i64 M, stp, .int .i64 n, .slice a1 one.length c1, .slice a2 row.length c2, .int .i64 rows, .int .i64 last, .int .i64 e] 186, QG 3 1 a1 c1 (one).length (QY one), QG 92 1 a2 c2 (row).length (Xp row)] (fun v l => ∃ n' one' row' rows' last' e' out a1 c1 a2 c2 a3 c3, ((⟨n', one', row', rows', last', e'⟩ : RS), out) = XB W H ⟨n, one, row, rows, last, e⟩ ∧ v = .slice a3 out.length c3 ∧ l = [QA g [.int .i64 K, .int .i64 W, .int .i64 H, .int .i64 M, stp, .int .i64 n', .slice a1 one'.length c1, .slice a2 row'.length c2, .int .i64 rows', .int .i64 last', .int .i64 e'] 186, QG 3 1 a1 c1 (one').length (QY one'), QG 92 1 a2 c2 (row').length (Xp row'), QG 92 1 a3 c3 (out).length (Xp out)] ∧ (1 ≤ W → out = [] → a3 = none)) := by
 refine Qk (vs := [.pointer (some ⟨g, 0, none⟩)]) Tryz.func115 rfl Tryz.ntmps115 rfl ?_
 refine Qb (Qa (Qe rfl rfl (WpL.nil (Qb (Qb ?_)))))
 apply Q0 mixed [⟨4, _, []⟩, ⟨5, _, [0]⟩, ⟨6, _, [1]⟩, ⟨7, _, [2]⟩, ⟨8, _, [3]⟩, ⟨9, _, []⟩, ⟨10, _, [5]⟩, ⟨11, _, [6]⟩, ⟨12, _, [7]⟩, ⟨13, _, [8]⟩, ⟨14, _, [4, 9]⟩] rfl
 ·refine AllObs.mk ?_ ?_
  ·exact Qc rfl rfl (Qm rfl)
  refine AllObs.mk ?_ ?_
  ·exact Qq rfl rfl (Qm rfl)
  refine AllObs.mk ?_ ?_
  ·exact Qj (o2 := 7) rfl rfl rfl (Qm rfl)
  refine AllObs.mk ?_ ?_
  ·refine Qo rfl rfl (by rfl) ?_
   exact Qm rfl
  refine AllObs.mk ?_ ?_
  ·exact QC rfl rfl (WpL.nil ⟨rfl, rfl, rfl, by exact Ent.refl _⟩)
  refine AllObs.mk ?_ ?_
  ·exact Qc rfl rfl (Qm rfl)
  refine AllObs.mk ?_ ?_
  ·exact Qq rfl rfl (Qm rfl)
  refine AllObs.mk ?_ ?_
  ·exact Qj (o2 := 0) rfl rfl rfl (Qm rfl)
  refine AllObs.mk ?_ ?_
  ·exact Qj (o2 := 1) rfl rfl rfl (Qm rfl)
  refine AllObs.mk ?_ ?_
  ·refine Qo rfl rfl (by rfl) ?_
   exact Qm rfl
  refine AllObs.mk ?_ ?_
  ·exact Q7 rfl rfl rfl (Qm rfl)
  exact AllObs.nil
 ·refine Ql rfl (fun h0 => ?_) (fun h0 => ?_)
  ·refine Qb (Qa (Qe rfl rfl (WpL.nil (Qi ?_))))
   apply RetQ.mk
   ·exact (Res.one rfl rfl)
   ·have e : XB W H ⟨n, one, row, rows, last, e⟩ = (⟨n, one, row, rows, last, e⟩, []) := if_pos h0
    rw [e]
    exact ⟨_, _, _, _, _, _, [], a1, c1, a2, c2, none, 0, rfl, rfl, rfl, fun _ _ => rfl⟩
   ·exact (Ent.own_nil (Ent.refl _)).trans (Take.ent' (by repeat' constructor))
  ·refine Wp.skip (Qb (Qa (Qc rfl rfl (Qq rfl rfl (Qj (o2 := 7) rfl rfl rfl (Qo rfl rfl (by rfl) ?_))))))
   refine Qe rfl rfl (WpL.nil (Qb (Qa (Qc rfl rfl (Qq rfl rfl (Qj (o2 := 7) rfl rfl rfl (Q3 rfl rfl rfl (WpL.nil (Qb (Qa (Qc rfl rfl (Qq rfl rfl ?_))))))))))))
   refine Qj (o2 := 8) rfl rfl rfl (Qo rfl rfl (by rfl) ?_)
   refine QD rfl rfl rfl (Qu (by omega) (by omega)) ?_
   refine Qq rfl rfl (Qj (o2 := 8) rfl rfl rfl (Q3 rfl rfl rfl (WpL.nil (Qb (Qb ?_)))))
   apply Q0 mixed [⟨29, _, []⟩, ⟨30, _, [0]⟩, ⟨31, _, [1]⟩, ⟨32, _, [2]⟩, ⟨33, _, []⟩, ⟨34, _, [4]⟩, ⟨35, _, [5]⟩, ⟨36, _, [6]⟩, ⟨37, _, [7]⟩, ⟨38, _, [3, 8]⟩] rfl
   ·refine AllObs.mk ?_ ?_
    ·exact Qc rfl rfl (Qm rfl)
    refine AllObs.mk ?_ ?_
    ·exact Qq rfl rfl (Qm rfl)
    refine AllObs.mk ?_ ?_
    ·exact Qj (o2 := 8) rfl rfl rfl (Qm rfl)
    refine AllObs.mk ?_ ?_
    ·refine Qo rfl rfl (by rfl) ?_
     exact Qm rfl
    refine AllObs.mk ?_ ?_
    ·exact Qc rfl rfl (Qm rfl)
    refine AllObs.mk ?_ ?_
    ·exact Qq rfl rfl (Qm rfl)
    refine AllObs.mk ?_ ?_
    ·exact Qj (o2 := 0) rfl rfl rfl (Qm rfl)
    refine AllObs.mk ?_ ?_
    ·exact Qj (o2 := 2) rfl rfl rfl (Qm rfl)
    refine AllObs.mk ?_ ?_
    ·refine Qo rfl rfl (by rfl) ?_
     exact Qm rfl
    refine AllObs.mk ?_ ?_
    ·exact QN rfl rfl rfl (Qm rfl)
    exact AllObs.nil
   ·refine Ql rfl (fun h1 => ?_) (fun h1 => ?_)
    ·refine Qa (Qc rfl rfl (Qq rfl rfl (Qj (o2 := 9) rfl rfl rfl (Q3 rfl rfl rfl (WpL.nil (Qb (Qa (Qc rfl rfl (Qe rfl rfl (WpL.nil (Qi ?_)))))))))))
     apply RetQ.mk
     ·exact (Res.one rfl rfl)
     ·have e : XB W H ⟨n, one, row, rows, last, e⟩ = (⟨n, one, [], rows + 1, 1, e⟩, row) := (if_neg h0).trans (by rw [if_pos h1])
      rw [e]
      exact ⟨_, _, _, _, _, _, row, a1, c1, none, 0, a2, c2, rfl, rfl, rfl, fun hW hr => (by subst hr; simp at h0; omega)⟩
     ·exact (Ent.own_nil (Ent.refl _)).trans (Take.ent' (by repeat' constructor))
    ·refine Wp.skip (Qb (Qa (Qc rfl rfl (Qe rfl rfl (WpL.nil (Qi ?_))))))
     apply RetQ.mk
     ·exact (Res.one rfl rfl)
     ·have e : XB W H ⟨n, one, row, rows, last, e⟩ = (⟨n, one, [], rows + 1, last, e⟩, row) := (if_neg h0).trans (by rw [if_neg h1])
      rw [e]
      exact ⟨_, _, _, _, _, _, row, a1, c1, none, 0, a2, c2, rfl, rfl, rfl, fun hW hr => (by subst hr; simp at h0; omega)⟩
     ·exact (Ent.own_nil (Ent.refl _)).trans (Take.ent' (by repeat' constructor))


theorem endsR_keep (ch : Int) (s : RS) : (YA ch s).rows = s.rows ∧ (YA ch s).last = s.last ∧ (YA ch s).e = s.e := by unfold YA; split <;> exact ⟨rfl, rfl, rfl⟩
theorem Vj (K M : Int) (s : RS) (c : Int) : (XW K M s c).1.rows = s.rows ∧ (XW K M s c).1.last = s.last ∧ (XW K M s c).1.e = s.e := by
  unfold XW bitR Z2
  repeat' split
  all_goals first | exact ⟨rfl, rfl, rfl⟩ | exact endsR_keep _ _

theorem Put_gen (g : Nat) (K W H M n rows last e : Int) (stp : Value) [OneC stp] (a1 a2 : Option Addr) (c1 c2 : Nat) (one row : List Int) (c : Int) (f : Nat) [Ent1 Tryz.prog f] (hst : stp = .func (.func f) #[] #[]) (hf : Fn Tryz.prog f #[.pointer (some ⟨g, 0, none⟩), .int .u8 c] [QA g [.int .i64 K, .int .i64 W, .int .i64 H, .int .i64 M, stp, .int .i64 n, .slice a1 one.length c1, .slice a2 row.length c2, .int .i64 rows, .int .i64 last, .int .i64 e] 186, QG 3 1 a1 c1 (one).length (QY one), QG 92 1 a2 c2 (row).length (Xp row)] (fun v l => v = .int .i64 (XW K M ⟨n, one, row, rows, last, e⟩ c).2 ∧ ∃ n' one' row' rows' last' e' a1 c1 a2 c2, (⟨n', one', row', rows', last', e'⟩ : RS) = (XW K M ⟨n, one, row, rows, last, e⟩ c).1 ∧ l = [QA g [.int .i64 K, .int .i64 W, .int .i64 H, .int .i64 M, stp, .int .i64 n', .slice a1 one'.length c1, .slice a2 row'.length c2, .int .i64 rows', .int .i64 last', .int .i64 e'] 186, QG 3 1 a1 c1 (one').length (QY one'), QG 92 1 a2 c2 (row').length (Xp row')])) (h3 : 0 ≤ rows) (h4 : rows ≤ 2 ^ 60) : Fn Tryz.prog 127 #[.pointer (some ⟨g, 0, none⟩), .int .u8 c] [QA g [.int .i64 K, .int .i64 W, .int .i64 H, .int .i64 M, stp, .int .i64 n, .slice a1 one.length c1, .slice a2 row.length c2, .int .i64 rows, .int .i64 last, .int .i64 e] 186, QG 3 1 a1 c1 (one).length (QY one), QG 92 1 a2 c2 (row).length (Xp row)] (fun v l => ∃ n' one' row' rows' last' e' out a1 c1 a2 c2 a3 c3, ((⟨n', one', row', rows', last', e'⟩ : RS), out) = XH K W H M ⟨n, one, row, rows, last, e⟩ c ∧ v = .tuple #[.slice a3 out.length c3, .int .i64 last'] ∧ l = [QA g [.int .i64 K, .int .i64 W, .int .i64 H, .int .i64 M, stp, .int .i64 n', .slice a1 one'.length c1, .slice a2 row'.length c2, .int .i64 rows', .int .i64 last', .int .i64 e'] 186, QG 3 1 a1 c1 (one').length (QY one'), QG 92 1 a2 c2 (row').length (Xp row'), QG 92 1 a3 c3 (out).length (Xp out)] ∧ (1 ≤ W → out = [] → a3 = none)) := by
 subst hst
 refine Qk (vs := [.pointer (some ⟨g, 0, none⟩), .int .u8 c]) Tryz.func127 rfl Tryz.ntmps127 rfl ?_
 refine Qb (Qa (Qe rfl rfl (Qe rfl rfl (WpL.nil (Qb (Qb (Qa (Qc rfl rfl (Qq rfl rfl (Qj (o2 := 9) rfl rfl rfl (Qo rfl rfl (by rfl) ?_)))))))))))
 refine Xn rfl rfl rfl (WpL.nil (Ql rfl (fun h0 => ?_) (fun h0 => ?_)))
 ·refine Qb ?_
  apply Q0 mixed [⟨13, _, []⟩, ⟨14, _, [0]⟩, ⟨15, _, [1]⟩, ⟨16, _, [2]⟩, ⟨4, _, []⟩, ⟨5, _, [3, 4, 0, 1, 2]⟩] rfl
  ·refine AllObs.mk ?_ ?_
   ·exact Qc rfl rfl (Qm rfl)
   refine AllObs.mk ?_ ?_
   ·exact Qq rfl rfl (Qm rfl)
   refine AllObs.mk ?_ ?_
   ·exact Qj (o2 := 9) rfl rfl rfl (Qm rfl)
   refine AllObs.mk ?_ ?_
   ·refine Qo rfl rfl (by rfl) ?_
    exact Qm rfl
   refine AllObs.mk ?_ ?_
   ·exact Qe rfl rfl (Qm rfl)
   refine AllObs.mk ?_ ?_
   ·exact Qe rfl rfl (Qm rfl)
   exact AllObs.nil
  ·refine Qi ?_
   apply RetQ.mk
   ·exact (QB rfl rfl rfl)
   ·have e : XH K W H M ⟨n, one, row, rows, last, e⟩ c = (⟨n, one, row, rows, last, e⟩, []) := if_pos h0
    rw [e]
    exact ⟨_, _, _, _, _, _, [], a1, c1, a2, c2, none, 0, rfl, rfl, rfl, fun _ _ => rfl⟩
   ·exact (Ent.own_nil (Ent.refl _)).trans (Take.ent' (by repeat' constructor))
 ·refine Wp.skip (Qb (Qb (Qa (Qc rfl rfl (Qq rfl rfl (Qj (o2 := 4) rfl rfl rfl (Qo rfl rfl (by rfl) ?_)))))))
  refine Qc rfl rfl (Qc rfl rfl (X3 (u := []) (c := []) rfl rfl rfl rfl (by repeat' constructor) (hf) ?_))
  rintro _ _ ⟨rfl, n', one', row', rows', last', e', a1, c1, a2, c2, hs, rfl⟩
  simp only [Qr]
  have hk := Vj K M ⟨n, one, row, rows, last, e⟩ c
  rw [← hs] at hk
  have hk1 : rows' = rows := hk.1
  have hk2 : last' = last := hk.2.1
  refine Qe rfl rfl (WpL.nil (Qb (Qa (Qc rfl rfl (Xn rfl rfl rfl (WpL.nil (Ql rfl (fun h1 => ?_) (fun h1 => ?_))))))))
  ·refine Qb (Qa (Qc rfl rfl (Qc rfl rfl (Qh rfl rfl (by repeat' constructor) (wrong_spec _ _ _ _ _ _ _ _ _ _ _ _ _ _ _ _ _) ?_))))
   rintro _ _ ⟨rfl, n2, one2, row2, rows2, last2, e2, a1, c1, a2, c2, hs2, rfl⟩
   simp only [Qr]
   obtain rfl : last2 = 2 := congrArg RS.last hs2
   refine QH rfl rfl rfl (QH rfl rfl rfl (Qe rfl rfl (Qe rfl rfl (WpL.nil (Qi ?_)))))
   apply RetQ.mk
   ·exact (QB rfl rfl rfl)
   ·have e : XH K W H M ⟨n, one, row, rows, last, e⟩ c = (wrongR (XW K M ⟨n, one, row, rows, last, e⟩ c).1 (XW K M ⟨n, one, row, rows, last, e⟩ c).2, []) := (if_neg h0).trans (if_pos h1)
    rw [e, ← hs]
    exact ⟨_, _, _, _, _, _, [], a1, c1, a2, c2, none, 0, (congrArg (·, []) hs2), rfl, rfl, fun _ _ => rfl⟩
   ·exact (Ent.own_nil (Ent.refl _)).trans (Take.ent' (by repeat' constructor))
  ·refine Wp.skip (Qb (Qa (Qc rfl rfl (Qh rfl rfl (by repeat' constructor) (full_spec _ _ _ _ _ _ _ _ _ _ _ _ _ _ _ _ (by omega) (by omega)) ?_))))
   rintro _ _ ⟨n2, one2, row2, rows2, last2, e2, out, a1, c1, a2, c2, a3, c3, hs2, rfl, rfl, hnl2⟩
   simp only [Qr]
   refine Qe rfl rfl (WpL.nil (Qb ?_))
   apply Q0 mixed [⟨33, _, []⟩, ⟨34, _, []⟩, ⟨35, _, [1]⟩, ⟨36, _, [2]⟩, ⟨37, _, [3]⟩, ⟨4, _, [0]⟩, ⟨5, _, [4, 5, 0, 1, 2, 3]⟩] rfl
   ·refine AllObs.mk ?_ ?_
    ·exact Qc rfl rfl (Qm rfl)
    refine AllObs.mk ?_ ?_
    ·exact Qc rfl rfl (Qm rfl)
    refine AllObs.mk ?_ ?_
    ·exact Qq rfl rfl (Qm rfl)
    refine AllObs.mk ?_ ?_
    ·exact Qj (o2 := 9) rfl rfl rfl (Qm rfl)
    refine AllObs.mk ?_ ?_
    ·refine Qo rfl rfl (by rfl) ?_
     exact Qm rfl
    refine AllObs.mk ?_ ?_
    ·exact Qe rfl rfl (Qm rfl)
    refine AllObs.mk ?_ ?_
    ·exact Qe rfl rfl (Qm rfl)
    exact AllObs.nil
   ·refine Qi ?_
    apply RetQ.mk
    ·exact (QB rfl rfl rfl)
    ·have e : XH K W H M ⟨n, one, row, rows, last, e⟩ c = XB W H (XW K M ⟨n, one, row, rows, last, e⟩ c).1 := (if_neg h0).trans (if_neg h1)
     rw [e, ← hs]
     exact ⟨_, _, _, _, _, _, _, a1, c1, a2, c2, a3, c3, hs2, rfl, rfl, hnl2⟩
    ·exact Ent.refl _

theorem End_spec (g : Nat) (K W H M n rows last e : Int) (stp : Value) [OneC stp] (a1 a2 : Option Addr) (c1 c2 : Nat) (one row : List Int) (hK : 0 ≤ K) (h1 : one.length ≤ 3) (h2 : row.length ≤ 1000000000000) (h3 : 0 ≤ rows) (h4 : rows ≤ 2 ^ 60) : Fn Tryz.prog 62 #[.pointer (some ⟨g, 0, none⟩)] [QA g [.int .i64 K, .int .i64 W, .int .i64 H, .int .i64 M, stp, .int .i64 n, .slice a1 one.length c1, .slice a2 row.length c2, .int .i64 rows, .int .i64 last, .int .i64 e] 186, QG 3 1 a1 c1 (one).length (QY one), QG 92 1 a2 c2 (row).length (Xp row)] (fun v l => ∃ n' one' row' rows' last' e' out a1 c1 a2 c2 a3 c3, ((⟨n', one', row', rows', last', e'⟩ : RS), out) = Yd K W H ⟨n, one, row, rows, last, e⟩ ∧ v = .tuple #[.slice a3 out.length c3, .int .i64 last'] ∧ l = [QA g [.int .i64 K, .int .i64 W, .int .i64 H, .int .i64 M, stp, .int .i64 n', .slice a1 one'.length c1, .slice a2 row'.length c2, .int .i64 rows', .int .i64 last', .int .i64 e'] 186, QG 3 1 a1 c1 (one').length (QY one'), QG 92 1 a2 c2 (row').length (Xp row'), QG 92 1 a3 c3 (out).length (Xp out)] ∧ (1 ≤ W → out = [] → a3 = none)) := by
 refine Qk (vs := [.pointer (some ⟨g, 0, none⟩)]) Tryz.func62 rfl Tryz.ntmps62 rfl ?_
 refine Qb (Qa (Qe rfl rfl (Qe rfl rfl (WpL.nil (Qb (Qb (Qa (Qc rfl rfl (Qq rfl rfl (Qj (o2 := 9) rfl rfl rfl (Qo rfl rfl (by rfl) ?_)))))))))))
 refine Xn rfl rfl rfl (WpL.nil (Ql rfl (fun h0 => ?_) (fun h0 => ?_)))
 ·refine Qb ?_
  apply Q0 mixed [⟨10, _, []⟩, ⟨11, _, [0]⟩, ⟨12, _, [1]⟩, ⟨13, _, [2]⟩, ⟨2, _, []⟩, ⟨3, _, [3, 4, 0, 1, 2]⟩] rfl
  ·refine AllObs.mk ?_ ?_
   ·exact Qc rfl rfl (Qm rfl)
   refine AllObs.mk ?_ ?_
   ·exact Qq rfl rfl (Qm rfl)
   refine AllObs.mk ?_ ?_
   ·exact Qj (o2 := 9) rfl rfl rfl (Qm rfl)
   refine AllObs.mk ?_ ?_
   ·refine Qo rfl rfl (by rfl) ?_
    exact Qm rfl
   refine AllObs.mk ?_ ?_
   ·exact Qe rfl rfl (Qm rfl)
   refine AllObs.mk ?_ ?_
   ·exact Qe rfl rfl (Qm rfl)
   exact AllObs.nil
  ·refine Qi ?_
   apply RetQ.mk
   ·exact (QB rfl rfl rfl)
   ·have e : Yd K W H ⟨n, one, row, rows, last, e⟩ = (⟨n, one, row, rows, last, e⟩, []) := if_pos h0
    rw [e]
    exact ⟨_, _, _, _, _, _, [], a1, c1, a2, c2, none, 0, rfl, rfl, rfl, fun _ _ => rfl⟩
   ·exact (Ent.own_nil (Ent.refl _)).trans (Take.ent' (by repeat' constructor))
 ·refine Wp.skip (Qb (Qa (Qc rfl rfl (Qh rfl rfl (by repeat' constructor) (ends_spec _ _ _ _ _ _ _ _ _ _ _ _ _ _ _ _ (by omega) (by omega) (by omega)) ?_))))
  rintro _ _ ⟨rfl, n', one', row', rows', last', e', a1, c1, a2, c2, hs, rfl⟩
  simp only [Qr]
  have hk := endsR_keep (QW K) ⟨n, one, row, rows, last, e⟩
  rw [← hs] at hk
  have hk1 : rows' = rows := hk.1
  have hk2 : last' = last := hk.2.1
  refine WpL.nil (Qb (Qa (Qc rfl rfl (Qh rfl rfl (by repeat' constructor) (full_spec _ _ _ _ _ _ _ _ _ _ _ _ _ _ _ _ (by omega) (by omega)) ?_))))
  rintro _ _ ⟨n2, one2, row2, rows2, last2, e2, out, a1, c1, a2, c2, a3, c3, hs2, rfl, rfl, hnl2⟩
  simp only [Qr]
  refine Qe rfl rfl (WpL.nil (Qb (Qb (Qa (Qc rfl rfl (Qq rfl rfl (Qj (o2 := 9) rfl rfl rfl (Qo rfl rfl (by rfl) ?_))))))))
  refine QN rfl rfl rfl (WpL.nil (Ql rfl (fun h1 => ?_) (fun h1 => ?_)))
  ·refine Qa (Qc rfl rfl (Qc rfl rfl (Qq rfl rfl (Qj (o2 := 10) rfl rfl rfl (Q3 rfl rfl rfl (Qq rfl rfl (Qj (o2 := 9) rfl rfl rfl (Q3 rfl rfl rfl (WpL.nil (Qb ?_))))))))))
   apply Q0 mixed [⟨29, _, []⟩, ⟨30, _, []⟩, ⟨31, _, [1]⟩, ⟨32, _, [2]⟩, ⟨33, _, [3]⟩, ⟨2, _, [0]⟩, ⟨3, _, [4, 5, 0, 1, 2, 3]⟩] rfl
   ·refine AllObs.mk ?_ ?_
    ·exact Qc rfl rfl (Qm rfl)
    refine AllObs.mk ?_ ?_
    ·exact Qc rfl rfl (Qm rfl)
    refine AllObs.mk ?_ ?_
    ·exact Qq rfl rfl (Qm rfl)
    refine AllObs.mk ?_ ?_
    ·exact Qj (o2 := 9) rfl rfl rfl (Qm rfl)
    refine AllObs.mk ?_ ?_
    ·refine Qo rfl rfl (by rfl) ?_
     exact Qm rfl
    refine AllObs.mk ?_ ?_
    ·exact Qe rfl rfl (Qm rfl)
    refine AllObs.mk ?_ ?_
    ·exact Qe rfl rfl (Qm rfl)
    exact AllObs.nil
   ·refine Qi ?_
    apply RetQ.mk
    ·exact (QB rfl rfl rfl)
    ·have e : Yd K W H ⟨n, one, row, rows, last, e⟩ = (wrongR (XB W H (YA (QW K) ⟨n, one, row, rows, last, e⟩)).1 6, (XB W H (YA (QW K) ⟨n, one, row, rows, last, e⟩)).2) := (if_neg h0).trans (if_pos (by rw [← hs, ← hs2]; exact h1))
     rw [e, ← hs, ← hs2]
     exact ⟨_, _, _, _, _, _, _, a1, c1, a2, c2, a3, c3, rfl, rfl, rfl, hnl2⟩
    ·exact Ent.refl _
  ·refine Wp.skip (Qb ?_)
   apply Q0 mixed [⟨29, _, []⟩, ⟨30, _, []⟩, ⟨31, _, [1]⟩, ⟨32, _, [2]⟩, ⟨33, _, [3]⟩, ⟨2, _, [0]⟩, ⟨3, _, [4, 5, 0, 1, 2, 3]⟩] rfl
   ·refine AllObs.mk ?_ ?_
    ·exact Qc rfl rfl (Qm rfl)
    refine AllObs.mk ?_ ?_
    ·exact Qc rfl rfl (Qm rfl)
    refine AllObs.mk ?_ ?_
    ·exact Qq rfl rfl (Qm rfl)
    refine AllObs.mk ?_ ?_
    ·exact Qj (o2 := 9) rfl rfl rfl (Qm rfl)
    refine AllObs.mk ?_ ?_
    ·refine Qo rfl rfl (by rfl) ?_
     exact Qm rfl
    refine AllObs.mk ?_ ?_
    ·exact Qe rfl rfl (Qm rfl)
    refine AllObs.mk ?_ ?_
    ·exact Qe rfl rfl (Qm rfl)
    exact AllObs.nil
   ·refine Qi ?_
    apply RetQ.mk
    ·exact (QB rfl rfl rfl)
    ·have e : Yd K W H ⟨n, one, row, rows, last, e⟩ = XB W H (YA (QW K) ⟨n, one, row, rows, last, e⟩) := (if_neg h0).trans (if_neg (by rw [← hs, ← hs2]; exact h1))
     rw [e, ← hs]
     exact ⟨_, _, _, _, _, _, _, a1, c1, a2, c2, a3, c3, hs2, rfl, rfl, hnl2⟩
    ·exact Ent.refl _


theorem Error_spec (g : Nat) (K W H M n rows last e : Int) (stp : Value) [OneC stp] (a1 a2 : Option Addr) (c1 c2 : Nat) (one row : List Int) : Fn Tryz.prog 128 #[.pointer (some ⟨g, 0, none⟩)] [QA g [.int .i64 K, .int .i64 W, .int .i64 H, .int .i64 M, stp, .int .i64 n, .slice a1 one.length c1, .slice a2 row.length c2, .int .i64 rows, .int .i64 last, .int .i64 e] 186, QG 3 1 a1 c1 (one).length (QY one), QG 92 1 a2 c2 (row).length (Xp row)] (fun v l => v = .int .i64 e ∧ l = [QA g [.int .i64 K, .int .i64 W, .int .i64 H, .int .i64 M, stp, .int .i64 n, .slice a1 one.length c1, .slice a2 row.length c2, .int .i64 rows, .int .i64 last, .int .i64 e] 186, QG 3 1 a1 c1 (one).length (QY one), QG 92 1 a2 c2 (row).length (Xp row)]) := by
 refine Qk (vs := [.pointer (some ⟨g, 0, none⟩)]) Tryz.func128 rfl Tryz.ntmps128 rfl ?_
 refine Qb (Qa (Qe rfl rfl (WpL.nil (Qb (Qa (Qc rfl rfl (Qq rfl rfl (Qj (o2 := 10) rfl rfl rfl (Qo rfl rfl (by rfl) ?_)))))))))
 refine Qe rfl rfl (WpL.nil (Qi ?_))
 apply RetQ.mk
 ·exact (Res.one rfl rfl)
 ·exact ⟨rfl, rfl⟩
 ·exact Ent.refl _

def Zi (K W H M : Int) : Prop := Xv K W H M ∧ ¬ (4 ≤ K ∧ K ≤ 6)
instance (K W H M : Int) : Decidable (Zi K W H M) := by unfold Zi; infer_instance
def stpOf (K : Int) : Value := if K = 1 then .func (.func 170) #[] #[] else .func (.func 169) #[] #[]
instance (K : Int) : OneC (stpOf K) := by unfold stpOf; split <;> infer_instance

theorem New_spec (K W H M : Int) : Fn Tryz.prog 126 #[.agg #[.int .i64 K, .int .i64 W, .int .i64 H, .int .i64 M]] [] (fun v l => (Zi K W H M ∧ ∃ g, v = .tuple #[.pointer (some ⟨g, 0, none⟩), .int .i64 0] ∧ l = [QA g [.int .i64 K, .int .i64 W, .int .i64 H, .int .i64 M, stpOf K, .int .i64 (-1), .slice none 0 0, .slice none 0 0, .int .i64 0, .int .i64 0, .int .i64 0] 186, QG 3 1 none 0 0 (QY []), QG 92 1 none 0 0 (Xp [])]) ∨ (¬ Zi K W H M ∧ v = .tuple #[.pointer none, .int .i64 1] ∧ l = [])) := by
 refine Qk (vs := [.agg #[.int .i64 K, .int .i64 W, .int .i64 H, .int .i64 M]]) Tryz.func126 rfl Tryz.ntmps126 rfl (Qb (Qa (Q9 rfl rfl rfl ?_)))
 intro g1
 refine Qe rfl rfl (Qe rfl rfl (WpL.nil (Qb (Qb (Qa ?_)))))
 refine QI (vs := [_, _, _, _]) rfl rfl rfl (by rfl) ?_
 refine Qh rfl rfl (by repeat' constructor) (May_spec _ _ _ _) ?_
 rintro _ _ ⟨rfl, rfl⟩
 simp only [Qr]
 refine XN rfl rfl (Qc rfl rfl (QK rfl rfl rfl (fun hg1 => ?_) (fun hg1 => ?_)))
 ·have hg1 := of_decide_eq_false hg1
  refine QI (vs := [_, _, _, _]) rfl rfl rfl (by rfl) ?_
  refine Qf rfl rfl (Qh rfl rfl (by repeat' constructor) (ZW _ _ _ _) ?_)
  rintro _ _ ⟨rfl, rfl⟩
  simp only [Qr]
  refine Qs rfl rfl rfl (WpL.nil (Ql rfl (fun h0 => ?_) (fun h0 => ?_)))
  ·refine Qb (Qa (Qe rfl rfl (Qe rfl rfl (WpL.nil (Qi ?_)))))
   apply RetQ.mk
   ·exact (QB rfl rfl rfl)
   ·exact Or.inr ⟨fun h => h.2 h0, rfl, rfl⟩
   ·exact Ent.nil _
  ·refine Wp.skip (Qb (Qa ?_))
   refine QI (vs := [_, _, _, _]) rfl rfl rfl (by rfl) ?_
   refine YI rfl rfl ?_
   refine Q9 rfl rfl rfl ?_
   intro g2
   refine Qe rfl rfl (WpL.nil (Qb (Qb (Qa (Qj (o2 := 0) rfl rfl rfl (Qo rfl rfl (by rfl) ?_))))))
   refine QN rfl rfl rfl (WpL.nil (Ql rfl (fun h1 => ?_) (fun h1 => ?_)))
   ·refine Qa (Qc rfl rfl (Qq rfl rfl (Qj (o2 := 4) rfl rfl rfl (Q3 rfl rfl rfl (WpL.nil (Qb (Qa (Qc rfl rfl (Qe rfl rfl (Qe rfl rfl (WpL.nil (Qi ?_))))))))))))
    apply RetQ.mk
    ·exact (QB rfl rfl rfl)
    ·exact Or.inl ⟨⟨Classical.not_not.1 hg1, h0⟩, g2, rfl, rfl⟩
    ·rw [show stpOf K = _ from if_pos h1]
     exact ((Ent.own_nil (Ent.refl _)).trans ((Ent.own_nil (Ent.refl _)).trans (Take.ent' (by repeat' constructor))))
   ·refine Wp.skip (Qb (Qa (Qc rfl rfl (Qe rfl rfl (Qe rfl rfl (WpL.nil (Qi ?_)))))))
    apply RetQ.mk
    ·exact (QB rfl rfl rfl)
    ·exact Or.inl ⟨⟨Classical.not_not.1 hg1, h0⟩, g2, rfl, rfl⟩
    ·rw [show stpOf K = _ from if_neg h1]
     exact ((Ent.own_nil (Ent.refl _)).trans ((Ent.own_nil (Ent.refl _)).trans (Take.ent' (by repeat' constructor))))
 ·have hg1 := of_decide_eq_true hg1
  refine Qd rfl rfl rfl (by decide) (Qt rfl rfl rfl (WpL.nil (Xc rfl (Qb (Qa (Qe rfl rfl (Qe rfl rfl (WpL.nil (Qi ?_)))))))))
  apply RetQ.mk
  ·exact (QB rfl rfl rfl)
  ·exact Or.inr ⟨fun h => hg1 h.1, rfl, rfl⟩
  ·exact Ent.nil _

theorem Put_spec (g : Nat) (K W H M n rows last e : Int) (stp : Value) [OneC stp] (a1 a2 : Option Addr) (c1 c2 : Nat) (one row : List Int) (c : Int) (hst : stp = stpOf K) (hK : 0 ≤ K) (h1 : one.length ≤ 3) (h2 : row.length ≤ 1000000000000) (hc : 0 ≤ c) (hc2 : c ≤ 255) (hM : 0 ≤ M) (hN : M ≤ 2 ^ 60) (h3 : 0 ≤ rows) (h4 : rows ≤ 2 ^ 60) :
    Fn Tryz.prog 127 #[.pointer (some ⟨g, 0, none⟩), .int .u8 c] [QA g [.int .i64 K, .int .i64 W, .int .i64 H, .int .i64 M, stp, .int .i64 n, .slice a1 one.length c1, .slice a2 row.length c2, .int .i64 rows, .int .i64 last, .int .i64 e] 186, QG 3 1 a1 c1 (one).length (QY one), QG 92 1 a2 c2 (row).length (Xp row)] (fun v l => ∃ n' one' row' rows' last' e' out a1 c1 a2 c2 a3 c3, ((⟨n', one', row', rows', last', e'⟩ : RS), out) = XH K W H M ⟨n, one, row, rows, last, e⟩ c ∧ v = .tuple #[.slice a3 out.length c3, .int .i64 last'] ∧ l = [QA g [.int .i64 K, .int .i64 W, .int .i64 H, .int .i64 M, stp, .int .i64 n', .slice a1 one'.length c1, .slice a2 row'.length c2, .int .i64 rows', .int .i64 last', .int .i64 e'] 186, QG 3 1 a1 c1 (one').length (QY one'), QG 92 1 a2 c2 (row').length (Xp row'), QG 92 1 a3 c3 (out).length (Xp out)] ∧ (1 ≤ W → out = [] → a3 = none)) := by
  by_cases h : K = 1
  · refine Put_gen g K W H M n rows last e stp a1 a2 c1 c2 one row c 170 (hst.trans (if_pos h)) ?_ h3 h4
    have := bit_spec g K W H M n rows last e stp a1 a2 c1 c2 one row hK h1 h2 c hc hc2
    rw [show XW K M ⟨n, one, row, rows, last, e⟩ c = bitR (QW K) ⟨n, one, row, rows, last, e⟩ c from if_pos h]
    exact this
  · refine Put_gen g K W H M n rows last e stp a1 a2 c1 c2 one row c 169 (hst.trans (if_neg h)) ?_ h3 h4
    have := number_spec g K W H M n rows last e stp a1 a2 c1 c2 one row hK h1 h2 c hc hc2 hM hN
    rw [show XW K M ⟨n, one, row, rows, last, e⟩ c = Z2 (QW K) M ⟨n, one, row, rows, last, e⟩ c from if_neg h]
    exact this

end Go.Proofs.YtggamdlpiejbiaaGreat
namespace Go.Proofs.YtggamdlpiejbiaaGreat
open Go.RowKit Go.Shelf

/-- A number's reader: 0 ahead, 1 a remark ahead, 2 digits, 3 a remark behind, 4 over, 5 wrong. -/
structure TS where
  (ph n e : Int)
def tk0 : TS := ⟨0, 0, 9⟩
def eol (c : Int) : Prop := c = 10 ∨ c = 13
instance (c : Int) : Decidable (eol c) := by unfold eol; infer_instance
def QV (most : Int) (s : TS) (c : Int) : TS × Int :=
  if s.ph = 4 then (s, 1) else if s.ph = 5 then (s, 2) else
  if s.ph = 1 then (if eol c then ⟨0, s.n, s.e⟩ else s, 0) else
  if s.ph = 3 then (if eol c then (⟨4, s.n, 0⟩, 1) else (s, 0)) else
  if c = 35 then (⟨s.ph + 1, s.n, s.e⟩, 0) else
  if Q6 c = true then (if s.ph = 0 then (s, 0) else (⟨4, s.n, 0⟩, 1)) else
  if (Xo s.n c most).2 ≠ 0 then (⟨5, 0, (Xo s.n c most).2⟩, 2) else (⟨2, (Xo s.n c most).1, s.e⟩, 0)
/-- What a number's reader may be, between bytes. -/
def Zx (most : Int) (s : TS) : Prop := 0 ≤ s.ph ∧ s.ph ≤ 3 ∧ 0 ≤ s.n ∧ s.n ≤ most ∧ s.e = 9
theorem stepN_ok {n c most : Int} (h0 : 0 ≤ n) (h : (Xo n c most).2 = 0) : 0 ≤ (Xo n c most).1 ∧ (Xo n c most).1 ≤ most := by
  unfold Xo at *
  split at h
  · simp at h
  · rename_i h1
    rw [if_neg h1]
    split at h
    · simp at h
    · rename_i h2
      rw [if_neg h2]
      simp only
      omega
theorem stepN_e {n c most : Int} : (Xo n c most).2 = 0 ∨ (Xo n c most).2 = 3 ∨ (Xo n c most).2 = 4 := by
  unfold Xo
  split
  · simp
  · split <;> simp
theorem tkPut_cases {most : Int} {s : TS} {c : Int} (h : Zx most s) : ((QV most s c).2 = 0 ∧ Zx most (QV most s c).1) ∨ ((QV most s c).2 = 1 ∧ (QV most s c).1.ph = 4 ∧ (QV most s c).1.e = 0 ∧ 0 ≤ (QV most s c).1.n ∧ (QV most s c).1.n ≤ most) ∨ ((QV most s c).2 = 2 ∧ (QV most s c).1.ph = 5 ∧ (QV most s c).1.n = 0 ∧ ((QV most s c).1.e = 3 ∨ (QV most s c).1.e = 4)) := by
  obtain ⟨h1, h2, h3, h4, h5⟩ := h
  have he := @stepN_e s.n c most
  unfold QV
  rw [if_neg (by omega), if_neg (by omega)]
  split
  · left
    refine ⟨rfl, ?_⟩
    simp only
    split
    · exact ⟨by simp, by simp, h3, h4, h5⟩
    · exact ⟨h1, h2, h3, h4, h5⟩
  · split
    · split
      · exact .inr (.inl ⟨rfl, rfl, rfl, h3, h4⟩)
      · exact .inl ⟨rfl, h1, h2, h3, h4, h5⟩
    · split
      · left; exact ⟨rfl, by simp only; omega, by simp only; omega, h3, h4, h5⟩
      · split
        · split
          · exact .inl ⟨rfl, h1, h2, h3, h4, h5⟩
          · exact .inr (.inl ⟨rfl, rfl, rfl, h3, h4⟩)
        · split
          · rename_i h6
            exact .inr (.inr ⟨rfl, rfl, rfl, by simp only; omega⟩)
          · rename_i h6
            have := stepN_ok (c := c) (most := most) h3 (Classical.not_not.1 h6)
            exact .inl ⟨rfl, by simp, by simp, this.1, this.2, h5⟩
/-- A head's reader. -/
structure HS where
  (K W H M at_ i : Int) (t : TS) (last e : Int)
def hd0 : HS := ⟨0, 0, 0, 0, 0, 0, tk0, 0, 9⟩
def X4 (l0 l1 l2 i : Int) : Int := if i = 0 then l0 else if i = 1 then l1 else l2
def Zc (K : Int) : Prop := K = 1 ∨ K = 4
instance (K : Int) : Decidable (Zc K) := by unfold Zc; infer_instance
def XP (l0 : Int) (s : HS) (c : Int) : HS :=
  if (s.at_ + 1 = 1 ∧ c ≠ 80) ∨ (s.at_ + 1 = 2 ∧ (c < 49 ∨ 54 < c)) then { s with at_ := s.at_ + 1, last := 2, e := 2 } else
  if s.at_ + 1 = 2 then { s with at_ := s.at_ + 1, K := c - 48, last := 0 } else
  if s.at_ + 1 = 3 then (if Q6 c = false ∧ c ≠ 35 then { s with at_ := s.at_ + 1, last := 2, e := 3 } else { s with at_ := s.at_ + 1, t := (QV l0 tk0 c).1, last := 0 }) else
  { s with at_ := s.at_ + 1, last := 0 }
def YB (s : HS) (n : Int) : HS := if s.i = 0 then { s with W := n } else if s.i = 1 then { s with H := n } else { s with M := n }
def XX (s : HS) : HS := if s.i + 1 = 2 ∧ Zc s.K then { s with M := 1, i := 3 } else { s with i := s.i + 1 }
def XF (l0 l1 l2 : Int) (s : HS) (c : Int) : HS :=
  if (QV (X4 l0 l1 l2 s.i) s.t c).2 = 0 then { s with t := (QV (X4 l0 l1 l2 s.i) s.t c).1, last := 0 } else
  if (QV (X4 l0 l1 l2 s.i) s.t c).2 = 2 then { s with t := (QV (X4 l0 l1 l2 s.i) s.t c).1, last := 2, e := (QV (X4 l0 l1 l2 s.i) s.t c).1.e } else
  if (QV (X4 l0 l1 l2 s.i) s.t c).1.n = 0 then { s with t := (QV (X4 l0 l1 l2 s.i) s.t c).1, last := 2, e := 4 } else
  if (XX (YB s (QV (X4 l0 l1 l2 s.i) s.t c).1.n)).i < 3 then { XX (YB s (QV (X4 l0 l1 l2 s.i) s.t c).1.n) with t := tk0, last := 0 } else
  { XX (YB s (QV (X4 l0 l1 l2 s.i) s.t c).1.n) with t := (QV (X4 l0 l1 l2 s.i) s.t c).1, last := 1, e := 0 }
def Q1 (l0 l1 l2 : Int) (s : HS) (c : Int) : HS := if s.last ≠ 0 then s else if s.at_ < 3 then XP l0 s c else XF l0 l1 l2 s c
/-- A head's reader told bytes: how it is when it ends, and how YO it was told. -/
def Xl (l0 l1 l2 : Int) : HS → List Int → Int → HS × Int
  | s, [], n => (s, n)
  | s, c :: bs, n => if (Q1 l0 l1 l2 s c).last ≠ 0 then (Q1 l0 l1 l2 s c, n + 1) else Xl l0 l1 l2 (Q1 l0 l1 l2 s c) bs (n + 1)
/-- The head that bytes begin with, how YO bytes it has, the error. -/
def hdP (l0 l1 l2 : Int) (bs : List Int) : (Int × Int × Int × Int) × Int × Int :=
  if (Xl l0 l1 l2 hd0 bs 0).1.last = 1 then (((Xl l0 l1 l2 hd0 bs 0).1.K, (Xl l0 l1 l2 hd0 bs 0).1.W, (Xl l0 l1 l2 hd0 bs 0).1.H, (Xl l0 l1 l2 hd0 bs 0).1.M), (Xl l0 l1 l2 hd0 bs 0).2, 0) else
  if (Xl l0 l1 l2 hd0 bs 0).1.last = 2 then ((0, 0, 0, 0), (Xl l0 l1 l2 hd0 bs 0).2, (Xl l0 l1 l2 hd0 bs 0).1.e) else ((0, 0, 0, 0), bs.length, 6)

end Go.Proofs.YtggamdlpiejbiaaGreat
