/- Walks and plain laws, a part of the proof of ImageTurns: every input that the law's guards let in, no condition beside. -/
import Derived.Test.YtggamdlpiejbiaaGreatM07
namespace Go.Proofs.YtggamdlpiejbiaaGreat
open Go.RowKit Go.Shelf


theorem Ent.nil2 {T s : Nat} {l : List HP} {A B : HP} (h : Ent l [A, B]) : Ent l [A, QG T s none 0 0 [], B] := (Ent.own_nil h).trans Ent.swap
/-- Samples that a pixel has. -/
def QZ (K : Int) : Int := if K % 3 = 0 then 3 else 1

def XD (ch : Int) (one row : List Int) (x : Int) : List Int × List Int := if (((one ++ [x]).length : Nat) : Int) = ch then ([], row ++ [(Xy (one ++ [x])).1]) else (one ++ [x], row)

theorem sample_spec (g : Nat) (K W H M n rows last e : Int) (stp : Value) [OneC stp] (a1 a2 : Option Addr) (c1 c2 : Nat) (one row : List Int) (x : Int) (hK : 0 ≤ K) (h1 : one.length ≤ 3) (h2 : row.length ≤ 1000000000000) : Fn Tryz.prog 164 #[.pointer (some ⟨g, 0, none⟩), .int .i64 x] [QB g [.int .i64 K, .int .i64 W, .int .i64 H, .int .i64 M, stp, .int .i64 n, .slice a1 one.length c1, .slice a2 row.length c2, .int .i64 rows, .int .i64 last, .int .i64 e] 186, QG 3 1 a1 c1 (one).length (QU one), QG 92 1 a2 c2 (row).length (Q5 row)] (fun v l => v = .tuple #[] ∧ ∃ a1 c1 a2 c2, l = [QB g [.int .i64 K, .int .i64 W, .int .i64 H, .int .i64 M, stp, .int .i64 n, .slice a1 (XD (QZ K) one row x).1.length c1, .slice a2 (XD (QZ K) one row x).2.length c2, .int .i64 rows, .int .i64 last, .int .i64 e] 186, QG 3 1 a1 c1 ((XD (QZ K) one row x).1).length (QU (XD (QZ K) one row x).1), QG 92 1 a2 c2 ((XD (QZ K) one row x).2).length (Q5 (XD (QZ K) one row x).2)]) := by
 refine Qk (vs := [.pointer (some ⟨g, 0, none⟩), .int .i64 x]) Tryz.func164 rfl Tryz.ntmps164 rfl ?_
 refine Qb (Qa (Qd rfl rfl (Qd rfl rfl (Qs rfl rfl (Qj (o2 := 6) rfl rfl rfl (Qo rfl rfl (by rfl) ?_))))))
 refine Qd rfl rfl ?_
 refine Y4 rfl rfl rfl rfl ?_
 intro g1
 refine X9 rfl rfl rfl (by repeat' constructor) (by rfl) (by rfl) (by rfl) (by rfl) (by omega) (by omega) ?_
 intro a13 c13
 rw [ints_snoc, show one.length + 1 = (one ++ [x]).length from by simp]
 refine Qs rfl rfl (Qj (o2 := 6) rfl rfl rfl (Q0 rfl rfl rfl (WpL.nil (Qb ?_))))
 apply QS mixed [⟨16, _, []⟩, ⟨17, _, [0]⟩, ⟨18, _, [1]⟩, ⟨19, _, [2]⟩, ⟨20, _, [3]⟩, ⟨21, _, []⟩, ⟨22, _, [5]⟩, ⟨23, _, [6]⟩, ⟨24, _, [7]⟩, ⟨25, _, [8]⟩, ⟨26, _, [9]⟩, ⟨27, _, [4, 10]⟩] rfl
 ·refine AllObs.mk ?_ ?_
  ·exact Qd rfl rfl (Ql rfl)
  refine AllObs.mk ?_ ?_
  ·exact Qs rfl rfl (Ql rfl)
  refine AllObs.mk ?_ ?_
  ·exact Qj (o2 := 6) rfl rfl rfl (Ql rfl)
  refine AllObs.mk ?_ ?_
  ·refine Qo rfl rfl (by rfl) ?_
   exact Ql rfl
  refine AllObs.mk ?_ ?_
  ·exact QK rfl rfl (WpL.nil ⟨rfl, rfl, rfl, by exact Ent.refl _⟩)
  refine AllObs.mk ?_ ?_
  ·exact Qd rfl rfl (Ql rfl)
  refine AllObs.mk ?_ ?_
  ·exact Qs rfl rfl (Ql rfl)
  refine AllObs.mk ?_ ?_
  ·exact Qj (o2 := 0) rfl rfl rfl (Ql rfl)
  refine AllObs.mk ?_ ?_
  ·refine Qz (vs := [_, _, _, _]) rfl rfl rfl (by rfl) ?_
   exact Ql rfl
  refine AllObs.mk ?_ ?_
  ·refine Qg rfl rfl (by repeat' constructor) (Xo _ _ _ _ (by omega)) ?_
   rintro _ _ ⟨rfl, rfl⟩
   simp only [Qr]
   exact WpL.nil ⟨rfl, rfl, rfl, by exact Ent.refl _⟩
  refine AllObs.mk ?_ ?_
  ·exact s_fv rfl rfl rfl (Ql rfl)
  refine AllObs.mk ?_ ?_
  ·exact QO rfl rfl rfl (Ql rfl)
  exact AllObs.nil
 ·refine Qm rfl (fun h0 => ?_) (fun h0 => ?_)
  ·refine Qb (Qa (Qd rfl rfl (Qs rfl rfl (Qj (o2 := 6) rfl rfl rfl (Qo rfl rfl (by rfl) ?_)))))
   refine Qg rfl rfl (by repeat' constructor) (Pack_spec [_] a13 c13 (one ++ [x]) QI (by simp; omega)) ?_
   rintro _ _ ⟨rfl, rfl⟩
   simp only [Qr]
   refine Qd rfl rfl (QC rfl rfl rfl (QC rfl rfl rfl (Qe rfl rfl (Qe rfl rfl (WpL.nil (Qa (Qd rfl rfl (Qd rfl rfl (Qd rfl rfl (Qs rfl rfl (Qj (o2 := 7) rfl rfl rfl (Qo rfl rfl (by rfl) ?_))))))))))))
   refine Qd rfl rfl ?_
   refine Y4 rfl rfl rfl rfl ?_
   intro g2
   refine X9 rfl rfl rfl (by repeat' constructor) (by rfl) (by rfl) (by rfl) (by rfl) (by omega) (by omega) ?_
   intro a44 c44
   rw [Zw, show row.length + 1 = (row ++ [(Xy (one ++ [x])).1]).length from by simp]
   refine Qs rfl rfl (Qj (o2 := 7) rfl rfl rfl (Q0 rfl rfl rfl (Qs rfl rfl (Qj (o2 := 6) rfl rfl rfl (Q0 rfl rfl rfl (WpL.nil ?_))))))
   apply Yr
   ·exact (XQ rfl)
   ·have hs : XD (QZ K) one row x = ([], row ++ [(Xy (one ++ [x])).1]) := if_pos h0
    exact ⟨rfl, none, 0, a44, c44, by rw [hs]⟩
   ·exact Ent.nil2 (Take.ent' (by repeat' constructor))
  ·refine Wp.skip ?_
   apply Yr
   ·exact (XQ rfl)
   ·have hs : XD (QZ K) one row x = (one ++ [x], row) := if_neg h0
    exact ⟨rfl, a13, c13, a2, c2, by rw [hs]⟩
   ·exact Take.ent' (by repeat' constructor)


structure RS where
  (n : Int) (one row : List Int) (rows last e : Int)
def sampleR (ch : Int) (s : RS) (x : Int) : RS := ⟨s.n, (XD ch s.one s.row x).1, (XD ch s.one s.row x).2, s.rows, s.last, s.e⟩
def YR (ch : Int) (s : RS) : RS := if s.n = -1 then s else ⟨-1, (XD ch s.one s.row s.n).1, (XD ch s.one s.row s.n).2, s.rows, s.last, s.e⟩
def Xr (n c M : Int) : Int × Int := if c < 48 ∨ c > 57 then (0, 3) else if c - 48 > M ∨ n > (M - (c - 48)) / 10 then (0, 4) else (10 * n + (c - 48), 0)
def bitR (ch : Int) (s : RS) (c : Int) : RS × Int := if XW c = true then (s, 0) else if c ≠ 48 ∧ c ≠ 49 then (s, 3) else (sampleR ch s (c - 48), 0)
def numR (ch M : Int) (s : RS) (c : Int) : RS × Int := if XW c = true then (YR ch s, 0) else if (Xr (max s.n 0) c M).2 = 4 then (s, 5) else if (Xr (max s.n 0) c M).2 = 0 then (⟨(Xr (max s.n 0) c M).1, s.one, s.row, s.rows, s.last, s.e⟩, 0) else (s, (Xr (max s.n 0) c M).2)
def YJ (W H : Int) (s : RS) : RS × List Int := if (s.row.length : Int) < W then (s, []) else (⟨s.n, s.one, [], s.rows + 1, if s.rows + 1 = H then 1 else s.last, s.e⟩, s.row)
def wrongR (s : RS) (e : Int) : RS := ⟨s.n, s.one, s.row, s.rows, 2, e⟩
def YN (K M : Int) (s : RS) (c : Int) : RS × Int := if K = 1 then bitR (QZ K) s c else numR (QZ K) M s c
def YO (K W H M : Int) (s : RS) (c : Int) : RS × List Int := if s.last ≠ 0 then (s, []) else if (YN K M s c).2 ≠ 0 then (wrongR (YN K M s c).1 (YN K M s c).2, []) else YJ W H (YN K M s c).1
def endR (K W H : Int) (s : RS) : RS × List Int := if s.last ≠ 0 then (s, []) else if (YJ W H (YR (QZ K) s)).1.last = 0 then (wrongR (YJ W H (YR (QZ K) s)).1 6, (YJ W H (YR (QZ K) s)).2) else YJ W H (YR (QZ K) s)

theorem ends_spec (g : Nat) (K W H M n rows last e : Int) (stp : Value) [OneC stp] (a1 a2 : Option Addr) (c1 c2 : Nat) (one row : List Int) (hK : 0 ≤ K) (h1 : one.length ≤ 3) (h2 : row.length ≤ 1000000000000) : Fn Tryz.prog 114 #[.pointer (some ⟨g, 0, none⟩)] [QB g [.int .i64 K, .int .i64 W, .int .i64 H, .int .i64 M, stp, .int .i64 n, .slice a1 one.length c1, .slice a2 row.length c2, .int .i64 rows, .int .i64 last, .int .i64 e] 186, QG 3 1 a1 c1 (one).length (QU one), QG 92 1 a2 c2 (row).length (Q5 row)] (fun v l => v = .tuple #[] ∧ ∃ n' one' row' rows' last' e' a1 c1 a2 c2, (⟨n', one', row', rows', last', e'⟩ : RS) = YR (QZ K) ⟨n, one, row, rows, last, e⟩ ∧ l = [QB g [.int .i64 K, .int .i64 W, .int .i64 H, .int .i64 M, stp, .int .i64 n', .slice a1 one'.length c1, .slice a2 row'.length c2, .int .i64 rows', .int .i64 last', .int .i64 e'] 186, QG 3 1 a1 c1 (one').length (QU one'), QG 92 1 a2 c2 (row').length (Q5 row')]) := by
 refine Qk (vs := [.pointer (some ⟨g, 0, none⟩)]) Tryz.func114 rfl Tryz.ntmps114 rfl ?_
 refine Qb (Qa (Qd rfl rfl (Qs rfl rfl (Qj (o2 := 5) rfl rfl rfl (Qo rfl rfl (by rfl) ?_)))))
 refine Xj rfl rfl rfl (WpL.nil (Qm rfl (fun h0 => ?_) (fun h0 => ?_)))
 ·refine Qb (Qa (Qd rfl rfl (Qd rfl rfl (Qs rfl rfl (Qj (o2 := 5) rfl rfl rfl (Qo rfl rfl (by rfl) ?_))))))
  refine Qg rfl rfl (by repeat' constructor) (sample_spec _ _ _ _ _ _ _ _ _ _ _ _ _ _ _ _ _ (by omega) (by omega) (by omega)) ?_
  rintro _ _ ⟨rfl, a1, c1, a2, c2, rfl⟩
  simp only [Qr]
  refine WpL.nil (Qa (Qd rfl rfl (Qs rfl rfl (Qj (o2 := 5) rfl rfl rfl (Q0 rfl rfl rfl (WpL.nil ?_))))))
  apply Yr
  ·exact (XQ rfl)
  ·exact ⟨rfl, _, _, _, _, _, _, a1, c1, a2, c2, (if_neg h0).symm, rfl⟩
  ·exact Ent.refl _
 ·refine Wp.skip ?_
  apply Yr
  ·exact (XQ rfl)
  ·exact ⟨rfl, _, _, _, _, _, _, a1, c1, a2, c2, (if_pos (by omega : n = -1)).symm, rfl⟩
  ·exact Ent.refl _

theorem Step_spec (n c M : Int) (h0 : 0 ≤ c) (h1 : c ≤ 255) (hn : 0 ≤ n) (hM : 0 ≤ M) (hN : M ≤ 2 ^ 60) : Fn Tryz.prog 196 #[.int .i64 n, .int .u8 c, .int .i64 M] [] (fun v l => v = .tuple #[.int .i64 (Xr n c M).1, .int .i64 (Xr n c M).2] ∧ l = []) := by
 refine Qk (vs := [.int .i64 n, .int .u8 c, .int .i64 M]) Tryz.func196 rfl Tryz.ntmps196 rfl (Qb (Qa (Qe rfl rfl (Qe rfl rfl (WpL.nil (Qb (Qa (Qd rfl rfl (Ya rfl Tryz.underlying5 rfl (Qt (by omega) (by omega)) ?_)))))))))
 refine Yz rfl rfl rfl (Qt (by omega) (by omega)) ?_
 refine Qe rfl rfl (WpL.nil (Qb (Wp.block ?_)))
 refine Qb (Qa (Qd rfl rfl (Q6 rfl rfl rfl (Qd rfl rfl (QH rfl rfl rfl (fun hg1 => ?_) (fun hg1 => ?_))))))
 ·have hg1 := of_decide_eq_false hg1
  refine Qd rfl rfl (Qf rfl rfl (s_gt rfl rfl rfl (Qq rfl rfl rfl (Qe rfl rfl (WpL.nil (Qm rfl (fun h0 => ?_) (fun h0 => ?_)))))))
  ·refine Qb (Qa (Qe rfl rfl (Qe rfl rfl (WpL.nil (Qh ?_)))))
   apply RetQ.mk
   ·exact (QF rfl rfl rfl)
   ·have e : Xr n c M = (0, 3) := by
     unfold Xr
     repeat' split
     all_goals first | rfl | (exfalso; omega)
    rw [e]
    exact ⟨rfl, rfl⟩
   ·exact Ent.refl _
  ·refine Qb (Qa (Qd rfl rfl (Qd rfl rfl (s_gt rfl rfl rfl (Qd rfl rfl (QH rfl rfl rfl (fun hg2 => ?_) (fun hg2 => ?_)))))))
   ·have hg2 := of_decide_eq_false hg2
    refine Qd rfl rfl (Qf rfl rfl (Qd rfl rfl (Qf rfl rfl (Qd rfl rfl (Qf rfl rfl (Yz rfl rfl rfl (Qt (by omega) (by omega)) ?_))))))
    refine Qf rfl rfl (Y5 rfl rfl rfl (by omega) (by omega) (Qt (by omega) (by omega)) ?_)
    refine Qf rfl rfl (s_gt rfl rfl rfl (Qq rfl rfl rfl (Qe rfl rfl (WpL.nil (Qm rfl (fun h1 => ?_) (fun h1 => ?_))))))
    ·refine Qb (Qa (Qe rfl rfl (Qe rfl rfl (WpL.nil (Qh ?_)))))
     apply RetQ.mk
     ·exact (QF rfl rfl rfl)
     ·have e : Xr n c M = (0, 4) := by
       unfold Xr
       repeat' split
       all_goals first | rfl | (exfalso; omega)
      rw [e]
      exact ⟨rfl, rfl⟩
     ·exact Ent.refl _
    ·refine Wp.skip (Qb (Qa (Qd rfl rfl (Xz rfl rfl rfl (Qt (by omega) (by omega)) ?_))))
     refine Qd rfl rfl (QE rfl rfl rfl (Qt (by omega) (by omega)) ?_)
     refine Qe rfl rfl (Qe rfl rfl (WpL.nil (Qh ?_)))
     apply RetQ.mk
     ·exact (QF rfl rfl rfl)
     ·have e : Xr n c M = (10 * n + (c - 48), 0) := by
       unfold Xr
       repeat' split
       all_goals first | rfl | (exfalso; omega)
      rw [e]
      exact ⟨rfl, rfl⟩
     ·exact Ent.refl _
   ·have hg2 := of_decide_eq_true hg2
    refine Qc rfl rfl rfl (by decide) (Qc rfl rfl rfl (by decide) (Qc rfl rfl rfl (by decide) (Qc rfl rfl rfl (by decide) (Qc rfl rfl rfl (by decide) (Qx rfl rfl rfl (Qe rfl rfl (WpL.nil (XG rfl (Qb (Qa (Qe rfl rfl (Qe rfl rfl ?_))))))))))))
    refine WpL.nil (Qh ?_)
    apply RetQ.mk
    ·exact (QF rfl rfl rfl)
    ·have e : Xr n c M = (0, 4) := by
      unfold Xr
      repeat' split
      all_goals first | rfl | (exfalso; omega)
     rw [e]
     exact ⟨rfl, rfl⟩
    ·exact Ent.refl _
 ·have hg1 := of_decide_eq_true hg1
  refine Qc rfl rfl rfl (by decide) (Qx rfl rfl rfl (Qe rfl rfl (WpL.nil (XG rfl (Qb (Qa (Qe rfl rfl (Qe rfl rfl (WpL.nil (Qh ?_))))))))))
  apply RetQ.mk
  ·exact (QF rfl rfl rfl)
  ·have e : Xr n c M = (0, 3) := by
    unfold Xr
    repeat' split
    all_goals first | rfl | (exfalso; omega)
   rw [e]
   exact ⟨rfl, rfl⟩
  ·exact Ent.refl _

theorem bit_spec (g : Nat) (K W H M n rows last e : Int) (stp : Value) [OneC stp] (a1 a2 : Option Addr) (c1 c2 : Nat) (one row : List Int) (hK : 0 ≤ K) (h1 : one.length ≤ 3) (h2 : row.length ≤ 1000000000000) (c : Int) (hc : 0 ≤ c) (hc2 : c ≤ 255) : Fn Tryz.prog 170 #[.pointer (some ⟨g, 0, none⟩), .int .u8 c] [QB g [.int .i64 K, .int .i64 W, .int .i64 H, .int .i64 M, stp, .int .i64 n, .slice a1 one.length c1, .slice a2 row.length c2, .int .i64 rows, .int .i64 last, .int .i64 e] 186, QG 3 1 a1 c1 (one).length (QU one), QG 92 1 a2 c2 (row).length (Q5 row)] (fun v l => v = .int .i64 (bitR (QZ K) ⟨n, one, row, rows, last, e⟩ c).2 ∧ ∃ n' one' row' rows' last' e' a1 c1 a2 c2, (⟨n', one', row', rows', last', e'⟩ : RS) = (bitR (QZ K) ⟨n, one, row, rows, last, e⟩ c).1 ∧ l = [QB g [.int .i64 K, .int .i64 W, .int .i64 H, .int .i64 M, stp, .int .i64 n', .slice a1 one'.length c1, .slice a2 row'.length c2, .int .i64 rows', .int .i64 last', .int .i64 e'] 186, QG 3 1 a1 c1 (one').length (QU one'), QG 92 1 a2 c2 (row').length (Q5 row')]) := by
 refine Qk (vs := [.pointer (some ⟨g, 0, none⟩), .int .u8 c]) Tryz.func170 rfl Tryz.ntmps170 rfl ?_
 refine Qb (Qa (Qe rfl rfl (WpL.nil (Qb (Wp.block ?_)))))
 refine Qb (Qa (Qd rfl rfl (Qg rfl rfl (by repeat' constructor) (Yb _ (by omega) (by omega)) ?_)))
 rintro _ _ ⟨rfl, rfl⟩
 simp only [Qr]
 refine Qe rfl rfl (WpL.nil (XC rfl (fun h0 => ?_) (fun h0 => ?_)))
 ·refine Qb (Qa (Qe rfl rfl (WpL.nil (Qh ?_))))
  apply RetQ.mk
  ·exact (Res.one rfl rfl)
  ·have e : bitR (QZ K) ⟨n, one, row, rows, last, e⟩ c = (⟨n, one, row, rows, last, e⟩, 0) := by
    unfold bitR
    repeat' split
    all_goals rfl
   rw [e]
   exact ⟨rfl, _, _, _, _, _, _, a1, c1, a2, c2, rfl, rfl⟩
  ·exact Ent.refl _
 ·refine Qb (Qa (Qd rfl rfl (Xj rfl rfl rfl (Qd rfl rfl (QH rfl rfl rfl (fun hg1 => ?_) (fun hg1 => ?_))))))
  ·have hg1 := of_decide_eq_true hg1
   refine Qd rfl rfl (Qf rfl rfl (Xj rfl rfl rfl (Qx rfl rfl rfl (Qe rfl rfl (WpL.nil (Qm rfl (fun h1 => ?_) (fun h1 => ?_)))))))
   ·refine Qb (Qa (Qe rfl rfl (WpL.nil (Qh ?_))))
    apply RetQ.mk
    ·exact (Res.one rfl rfl)
    ·have e : bitR (QZ K) ⟨n, one, row, rows, last, e⟩ c = (⟨n, one, row, rows, last, e⟩, 3) := by
      unfold bitR
      repeat' split
      all_goals first | rfl | (exfalso; omega) | (exfalso; simp_all; done)
     rw [e]
     exact ⟨rfl, _, _, _, _, _, _, a1, c1, a2, c2, rfl, rfl⟩
    ·exact Ent.refl _
   ·refine Wp.skip (Qb (Qa (Qd rfl rfl (Qd rfl rfl (Yz rfl rfl rfl (w_u8 (by omega) (by omega)) ?_)))))
    refine Ya rfl Tryz.underlying5 rfl (Qt (by omega) (by omega)) ?_
    refine Qg rfl rfl (by repeat' constructor) (sample_spec _ _ _ _ _ _ _ _ _ _ _ _ _ _ _ _ _ (by omega) (by omega) (by omega)) ?_
    rintro _ _ ⟨rfl, a1, c1, a2, c2, rfl⟩
    simp only [Qr]
    refine WpL.nil (Qb (Qa (Qe rfl rfl (WpL.nil (Qh ?_)))))
    apply RetQ.mk
    ·exact (Res.one rfl rfl)
    ·have e : bitR (QZ K) ⟨n, one, row, rows, last, e⟩ c = (⟨n, (XD (QZ K) one row (c - 48)).1, (XD (QZ K) one row (c - 48)).2, rows, last, e⟩, 0) := by
      unfold bitR
      repeat' split
      all_goals first | rfl | (exfalso; omega) | (exfalso; simp_all; done)
     rw [e]
     exact ⟨rfl, _, _, _, _, _, _, a1, c1, a2, c2, rfl, rfl⟩
    ·exact Ent.refl _
  ·have hg1 := of_decide_eq_false hg1
   refine Qc rfl rfl rfl (by decide) (Qq rfl rfl rfl (Qe rfl rfl (WpL.nil (QV rfl (Wp.skip (Qb (Qa (Qd rfl rfl (Qd rfl rfl (Yz rfl rfl rfl (w_u8 (by omega) (by omega)) ?_))))))))))
   refine Ya rfl Tryz.underlying5 rfl (Qt (by omega) (by omega)) ?_
   refine Qg rfl rfl (by repeat' constructor) (sample_spec _ _ _ _ _ _ _ _ _ _ _ _ _ _ _ _ _ (by omega) (by omega) (by omega)) ?_
   rintro _ _ ⟨rfl, a1, c1, a2, c2, rfl⟩
   simp only [Qr]
   refine WpL.nil (Qb (Qa (Qe rfl rfl (WpL.nil (Qh ?_)))))
   apply RetQ.mk
   ·exact (Res.one rfl rfl)
   ·have e : bitR (QZ K) ⟨n, one, row, rows, last, e⟩ c = (⟨n, (XD (QZ K) one row (c - 48)).1, (XD (QZ K) one row (c - 48)).2, rows, last, e⟩, 0) := by
     unfold bitR
     repeat' split
     all_goals first | rfl | (exfalso; omega) | (exfalso; simp_all; done)
    rw [e]
    exact ⟨rfl, _, _, _, _, _, _, a1, c1, a2, c2, rfl, rfl⟩
   ·exact Ent.refl _

theorem number_spec (g : Nat) (K W H M n rows last e : Int) (stp : Value) [OneC stp] (a1 a2 : Option Addr) (c1 c2 : Nat) (one row : List Int) (hK : 0 ≤ K) (h1 : one.length ≤ 3) (h2 : row.length ≤ 1000000000000) (c : Int) (hc : 0 ≤ c) (hc2 : c ≤ 255) (hM : 0 ≤ M) (hN : M ≤ 2 ^ 60) : Fn Tryz.prog 169 #[.pointer (some ⟨g, 0, none⟩), .int .u8 c] [QB g [.int .i64 K, .int .i64 W, .int .i64 H, .int .i64 M, stp, .int .i64 n, .slice a1 one.length c1, .slice a2 row.length c2, .int .i64 rows, .int .i64 last, .int .i64 e] 186, QG 3 1 a1 c1 (one).length (QU one), QG 92 1 a2 c2 (row).length (Q5 row)] (fun v l => v = .int .i64 (numR (QZ K) M ⟨n, one, row, rows, last, e⟩ c).2 ∧ ∃ n' one' row' rows' last' e' a1 c1 a2 c2, (⟨n', one', row', rows', last', e'⟩ : RS) = (numR (QZ K) M ⟨n, one, row, rows, last, e⟩ c).1 ∧ l = [QB g [.int .i64 K, .int .i64 W, .int .i64 H, .int .i64 M, stp, .int .i64 n', .slice a1 one'.length c1, .slice a2 row'.length c2, .int .i64 rows', .int .i64 last', .int .i64 e'] 186, QG 3 1 a1 c1 (one').length (QU one'), QG 92 1 a2 c2 (row').length (Q5 row')]) := by
 refine Qk (vs := [.pointer (some ⟨g, 0, none⟩), .int .u8 c]) Tryz.func169 rfl Tryz.ntmps169 rfl ?_
 refine Qb (Qa (Qe rfl rfl (WpL.nil (Qb (Qb (Qa (Qd rfl rfl (Qg rfl rfl (by repeat' constructor) (Yb _ (by omega) (by omega)) ?_))))))))
 rintro _ _ ⟨rfl, rfl⟩
 simp only [Qr]
 refine WpL.nil (XC rfl (fun h0 => ?_) (fun h0 => ?_))
 ·refine Qb (Qa (Qd rfl rfl (Qg rfl rfl (by repeat' constructor) (ends_spec _ _ _ _ _ _ _ _ _ _ _ _ _ _ _ _ (by omega) (by omega) (by omega)) ?_)))
  rintro _ _ ⟨rfl, n', one', row', rows', last', e', a1, c1, a2, c2, hs, rfl⟩
  simp only [Qr]
  refine WpL.nil (Qb (Qa (Qe rfl rfl (WpL.nil (Qh ?_)))))
  apply RetQ.mk
  ·exact (Res.one rfl rfl)
  ·have e : numR (QZ K) M ⟨n, one, row, rows, last, e⟩ c = (YR (QZ K) ⟨n, one, row, rows, last, e⟩, 0) := by
    unfold numR
    repeat' split
    all_goals rfl
   rw [e]
   exact ⟨rfl, _, _, _, _, _, _, a1, c1, a2, c2, hs, rfl⟩
  ·exact Ent.refl _
 ·refine Wp.skip (Qb ?_)
  apply QS mixed [⟨12, _, []⟩, ⟨13, _, [0]⟩, ⟨14, _, [1]⟩, ⟨15, _, [2]⟩, ⟨16, _, [3]⟩, ⟨17, _, []⟩, ⟨18, _, []⟩, ⟨19, _, [6]⟩, ⟨20, _, [7]⟩, ⟨21, _, [8]⟩, ⟨22, _, [9]⟩, ⟨23, _, [4, 5, 10]⟩, ⟨11, _, [11]⟩, ⟨24, _, [12]⟩, ⟨25, _, [12]⟩, ⟨5, _, [13, 11, 0, 1, 2, 3, 4, 5, 6, 7, 8, 9, 10, 12]⟩, ⟨6, _, [14, 15, 0, 1, 2, 3, 4, 5, 6, 7, 8, 9, 10, 11, 12, 13]⟩] rfl
  ·refine AllObs.mk ?_ ?_
   ·exact Qd rfl rfl (Ql rfl)
   refine AllObs.mk ?_ ?_
   ·exact Qs rfl rfl (Ql rfl)
   refine AllObs.mk ?_ ?_
   ·exact Qj (o2 := 5) rfl rfl rfl (Ql rfl)
   refine AllObs.mk ?_ ?_
   ·refine Qo rfl rfl (by rfl) ?_
    exact Ql rfl
   refine AllObs.mk ?_ ?_
   ·exact s_max2 rfl rfl rfl (WpL.nil ⟨rfl, rfl, rfl, by exact Ent.refl _⟩)
   refine AllObs.mk ?_ ?_
   ·exact Qd rfl rfl (Ql rfl)
   refine AllObs.mk ?_ ?_
   ·exact Qd rfl rfl (Ql rfl)
   refine AllObs.mk ?_ ?_
   ·exact Qs rfl rfl (Ql rfl)
   refine AllObs.mk ?_ ?_
   ·exact Qj (o2 := 0) rfl rfl rfl (Ql rfl)
   refine AllObs.mk ?_ ?_
   ·exact Qj (o2 := 3) rfl rfl rfl (Ql rfl)
   refine AllObs.mk ?_ ?_
   ·refine Qo rfl rfl (by rfl) ?_
    exact Ql rfl
   refine AllObs.mk ?_ ?_
   ·refine Qg rfl rfl (by repeat' constructor) (Step_spec _ _ _ (by omega) (by omega) (by omega) (by omega) (by omega)) ?_
    rintro _ _ ⟨rfl, rfl⟩
    simp only [Qr]
    exact WpL.nil ⟨rfl, rfl, rfl, by exact Ent.refl _⟩
   refine AllObs.mk ?_ ?_
   ·exact Qd rfl rfl (Ql rfl)
   refine AllObs.mk ?_ ?_
   ·exact QC rfl rfl rfl (Ql rfl)
   refine AllObs.mk ?_ ?_
   ·exact QC rfl rfl rfl (Ql rfl)
   refine AllObs.mk ?_ ?_
   ·exact Qe rfl rfl (Ql rfl)
   refine AllObs.mk ?_ ?_
   ·exact Qe rfl rfl (Ql rfl)
   exact AllObs.nil
  ·refine Qb (Qb (Qa (Qd rfl rfl (WpL.nil (Wp.block ?_)))))
   refine Qb (Qa (QO rfl rfl rfl (Qe rfl rfl (WpL.nil (Qm rfl (fun h1 => ?_) (fun h1 => ?_))))))
   ·refine Qb (Qa (Qe rfl rfl (WpL.nil (Qh ?_))))
    apply RetQ.mk
    ·exact (Res.one rfl rfl)
    ·have e : numR (QZ K) M ⟨n, one, row, rows, last, e⟩ c = (⟨n, one, row, rows, last, e⟩, 5) := by
      unfold numR
      repeat' split
      all_goals first | rfl | (exfalso; simp_all; done)
     rw [e]
     exact ⟨rfl, _, _, _, _, _, _, a1, c1, a2, c2, rfl, rfl⟩
    ·exact Ent.refl _
   ·refine Qb (Qa (QO rfl rfl rfl (Qe rfl rfl (WpL.nil (Qm rfl (fun h2 => ?_) (fun h2 => ?_))))))
    ·refine Qa (Qd rfl rfl (Qd rfl rfl (Qs rfl rfl (Qj (o2 := 5) rfl rfl rfl (Q0 rfl rfl rfl (WpL.nil (Qb (Qa (Qd rfl rfl (Qe rfl rfl (WpL.nil (Qh ?_))))))))))))
     apply RetQ.mk
     ·exact (Res.one rfl rfl)
     ·have e : numR (QZ K) M ⟨n, one, row, rows, last, e⟩ c = (⟨(Xr (max n 0) c M).1, one, row, rows, last, e⟩, (Xr (max n 0) c M).2) := by
       unfold numR
       repeat' split
       all_goals first | (exfalso; simp_all; done) | (simp_all; done)
      rw [e]
      exact ⟨rfl, _, _, _, _, _, _, a1, c1, a2, c2, rfl, rfl⟩
     ·exact Ent.refl _
    ·refine Wp.skip (Qb (Qa (Qd rfl rfl (Qe rfl rfl (WpL.nil (Qh ?_))))))
     apply RetQ.mk
     ·exact (Res.one rfl rfl)
     ·have e : numR (QZ K) M ⟨n, one, row, rows, last, e⟩ c = (⟨n, one, row, rows, last, e⟩, (Xr (max n 0) c M).2) := by
       unfold numR
       repeat' split
       all_goals first | rfl | (exfalso; simp_all; done)
      rw [e]
      exact ⟨rfl, _, _, _, _, _, _, a1, c1, a2, c2, rfl, rfl⟩
     ·exact Ent.refl _

theorem wrong_spec (g : Nat) (K W H M n rows last e : Int) (stp : Value) [OneC stp] (a1 a2 : Option Addr) (c1 c2 : Nat) (one row : List Int) (x : Int) : Fn Tryz.prog 171 #[.pointer (some ⟨g, 0, none⟩), .int .i64 x] [QB g [.int .i64 K, .int .i64 W, .int .i64 H, .int .i64 M, stp, .int .i64 n, .slice a1 one.length c1, .slice a2 row.length c2, .int .i64 rows, .int .i64 last, .int .i64 e] 186, QG 3 1 a1 c1 (one).length (QU one), QG 92 1 a2 c2 (row).length (Q5 row)] (fun v l => v = .tuple #[.slice none 0 0, .int .i64 2] ∧ ∃ n' one' row' rows' last' e' a1 c1 a2 c2, (⟨n', one', row', rows', last', e'⟩ : RS) = wrongR ⟨n, one, row, rows, last, e⟩ x ∧ l = [QB g [.int .i64 K, .int .i64 W, .int .i64 H, .int .i64 M, stp, .int .i64 n', .slice a1 one'.length c1, .slice a2 row'.length c2, .int .i64 rows', .int .i64 last', .int .i64 e'] 186, QG 3 1 a1 c1 (one').length (QU one'), QG 92 1 a2 c2 (row').length (Q5 row')]) := by
 refine Qk (vs := [.pointer (some ⟨g, 0, none⟩), .int .i64 x]) Tryz.func171 rfl Tryz.ntmps171 rfl ?_
 refine Qb (Qa (Qe rfl rfl (Qe rfl rfl (WpL.nil (Qb (Qa (Qd rfl rfl (Qd rfl rfl (Qd rfl rfl (Qs rfl rfl (Qj (o2 := 10) rfl rfl rfl (Q0 rfl rfl rfl ?_))))))))))))
 refine Qs rfl rfl (Qj (o2 := 9) rfl rfl rfl (Q0 rfl rfl rfl (WpL.nil (Qb ?_))))
 apply QS mixed [⟨13, _, []⟩, ⟨14, _, [0]⟩, ⟨15, _, [1]⟩, ⟨16, _, [2]⟩, ⟨4, _, []⟩, ⟨5, _, [3, 4, 0, 1, 2]⟩] rfl
 ·refine AllObs.mk ?_ ?_
  ·exact Qd rfl rfl (Ql rfl)
  refine AllObs.mk ?_ ?_
  ·exact Qs rfl rfl (Ql rfl)
  refine AllObs.mk ?_ ?_
  ·exact Qj (o2 := 9) rfl rfl rfl (Ql rfl)
  refine AllObs.mk ?_ ?_
  ·refine Qo rfl rfl (by rfl) ?_
   exact Ql rfl
  refine AllObs.mk ?_ ?_
  ·exact Qe rfl rfl (Ql rfl)
  refine AllObs.mk ?_ ?_
  ·exact Qe rfl rfl (Ql rfl)
  exact AllObs.nil
 ·refine Qh ?_
  apply RetQ.mk
  ·exact (QF rfl rfl rfl)
  ·exact ⟨rfl, _, _, _, _, _, _, a1, c1, a2, c2, rfl, rfl⟩
  ·exact Ent.refl _

theorem full_spec (g : Nat) (K W H M n rows last e : Int) (stp : Value) [OneC stp] (a1 a2 : Option Addr) (c1 c2 : Nat) (one row : List Int) (h3 : 0 ≤ rows) (h4 : rows ≤ 2 ^ 60) : Fn Tryz.prog 115 #[.pointer (some ⟨g, 0, none⟩)] [QB g [.int .i64 K, .int .i64 W, .int .i64 H, .int .i64 M, stp, .int .i64 n, .slice a1 one.length c1, .slice a2 row.length c2, .int .i64 rows, .int .i64 last, .int .i64 e] 186, QG 3 1 a1 c1 (one).length (QU one), QG 92 1 a2 c2 (row).length (Q5 row)] (fun v l => ∃ n' one' row' rows' last' e' out a1 c1 a2 c2 a3 c3, ((⟨n', one', row', rows', last', e'⟩ : RS), out) = YJ W H ⟨n, one, row, rows, last, e⟩ ∧ v = .slice a3 out.length c3 ∧ l = [QB g [.int .i64 K, .int .i64 W, .int .i64 H, .int .i64 M, stp, .int .i64 n', .slice a1 one'.length c1, .slice a2 row'.length c2, .int .i64 rows', .int .i64 last', .int .i64 e'] 186, QG 3 1 a1 c1 (one').length (QU one'), QG 92 1 a2 c2 (row').length (Q5 row'), QG 92 1 a3 c3 (out).length (Q5 out)] ∧ (1 ≤ W → out = [] → a3 = none)) := by
 refine Qk (vs := [.pointer (some ⟨g, 0, none⟩)]) Tryz.func115 rfl Tryz.ntmps115 rfl ?_
 refine Qb (Qa (Qe rfl rfl (WpL.nil (Qb (Qb ?_)))))
 apply QS mixed [⟨4, _, []⟩, ⟨5, _, [0]⟩, ⟨6, _, [1]⟩, ⟨7, _, [2]⟩, ⟨8, _, [3]⟩, ⟨9, _, []⟩, ⟨10, _, [5]⟩, ⟨11, _, [6]⟩, ⟨12, _, [7]⟩, ⟨13, _, [8]⟩, ⟨14, _, [4, 9]⟩] rfl
 ·refine AllObs.mk ?_ ?_
  ·exact Qd rfl rfl (Ql rfl)
  refine AllObs.mk ?_ ?_
  ·exact Qs rfl rfl (Ql rfl)
  refine AllObs.mk ?_ ?_
  ·exact Qj (o2 := 7) rfl rfl rfl (Ql rfl)
  refine AllObs.mk ?_ ?_
  ·refine Qo rfl rfl (by rfl) ?_
   exact Ql rfl
  refine AllObs.mk ?_ ?_
  ·exact QK rfl rfl (WpL.nil ⟨rfl, rfl, rfl, by exact Ent.refl _⟩)
  refine AllObs.mk ?_ ?_
  ·exact Qd rfl rfl (Ql rfl)
  refine AllObs.mk ?_ ?_
  ·exact Qs rfl rfl (Ql rfl)
  refine AllObs.mk ?_ ?_
  ·exact Qj (o2 := 0) rfl rfl rfl (Ql rfl)
  refine AllObs.mk ?_ ?_
  ·exact Qj (o2 := 1) rfl rfl rfl (Ql rfl)
  refine AllObs.mk ?_ ?_
  ·refine Qo rfl rfl (by rfl) ?_
   exact Ql rfl
  refine AllObs.mk ?_ ?_
  ·exact Q6 rfl rfl rfl (Ql rfl)
  exact AllObs.nil
 ·refine Qm rfl (fun h0 => ?_) (fun h0 => ?_)
  ·refine Qb (Qa (Qe rfl rfl (WpL.nil (Qh ?_))))
   apply RetQ.mk
   ·exact (Res.one rfl rfl)
   ·have e : YJ W H ⟨n, one, row, rows, last, e⟩ = (⟨n, one, row, rows, last, e⟩, []) := if_pos h0
    rw [e]
    exact ⟨_, _, _, _, _, _, [], a1, c1, a2, c2, none, 0, rfl, rfl, rfl, fun _ _ => rfl⟩
   ·exact (Ent.own_nil (Ent.refl _)).trans (Take.ent' (by repeat' constructor))
  ·refine Wp.skip (Qb (Qa (Qd rfl rfl (Qs rfl rfl (Qj (o2 := 7) rfl rfl rfl (Qo rfl rfl (by rfl) ?_))))))
   refine Qe rfl rfl (WpL.nil (Qb (Qa (Qd rfl rfl (Qs rfl rfl (Qj (o2 := 7) rfl rfl rfl (Q0 rfl rfl rfl (WpL.nil (Qb (Qa (Qd rfl rfl (Qs rfl rfl ?_))))))))))))
   refine Qj (o2 := 8) rfl rfl rfl (Qo rfl rfl (by rfl) ?_)
   refine QE rfl rfl rfl (Qt (by omega) (by omega)) ?_
   refine Qs rfl rfl (Qj (o2 := 8) rfl rfl rfl (Q0 rfl rfl rfl (WpL.nil (Qb (Qb ?_)))))
   apply QS mixed [⟨29, _, []⟩, ⟨30, _, [0]⟩, ⟨31, _, [1]⟩, ⟨32, _, [2]⟩, ⟨33, _, []⟩, ⟨34, _, [4]⟩, ⟨35, _, [5]⟩, ⟨36, _, [6]⟩, ⟨37, _, [7]⟩, ⟨38, _, [3, 8]⟩] rfl
   ·refine AllObs.mk ?_ ?_
    ·exact Qd rfl rfl (Ql rfl)
    refine AllObs.mk ?_ ?_
    ·exact Qs rfl rfl (Ql rfl)
    refine AllObs.mk ?_ ?_
    ·exact Qj (o2 := 8) rfl rfl rfl (Ql rfl)
    refine AllObs.mk ?_ ?_
    ·refine Qo rfl rfl (by rfl) ?_
     exact Ql rfl
    refine AllObs.mk ?_ ?_
    ·exact Qd rfl rfl (Ql rfl)
    refine AllObs.mk ?_ ?_
    ·exact Qs rfl rfl (Ql rfl)
    refine AllObs.mk ?_ ?_
    ·exact Qj (o2 := 0) rfl rfl rfl (Ql rfl)
    refine AllObs.mk ?_ ?_
    ·exact Qj (o2 := 2) rfl rfl rfl (Ql rfl)
    refine AllObs.mk ?_ ?_
    ·refine Qo rfl rfl (by rfl) ?_
     exact Ql rfl
    refine AllObs.mk ?_ ?_
    ·exact QO rfl rfl rfl (Ql rfl)
    exact AllObs.nil
   ·refine Qm rfl (fun h1 => ?_) (fun h1 => ?_)
    ·refine Qa (Qd rfl rfl (Qs rfl rfl (Qj (o2 := 9) rfl rfl rfl (Q0 rfl rfl rfl (WpL.nil (Qb (Qa (Qd rfl rfl (Qe rfl rfl (WpL.nil (Qh ?_)))))))))))
     apply RetQ.mk
     ·exact (Res.one rfl rfl)
     ·have e : YJ W H ⟨n, one, row, rows, last, e⟩ = (⟨n, one, [], rows + 1, 1, e⟩, row) := (if_neg h0).trans (by rw [if_pos h1])
      rw [e]
      exact ⟨_, _, _, _, _, _, row, a1, c1, none, 0, a2, c2, rfl, rfl, rfl, fun hW hr => (by subst hr; simp at h0; omega)⟩
     ·exact (Ent.own_nil (Ent.refl _)).trans (Take.ent' (by repeat' constructor))
    ·refine Wp.skip (Qb (Qa (Qd rfl rfl (Qe rfl rfl (WpL.nil (Qh ?_))))))
     apply RetQ.mk
     ·exact (Res.one rfl rfl)
     ·have e : YJ W H ⟨n, one, row, rows, last, e⟩ = (⟨n, one, [], rows + 1, last, e⟩, row) := (if_neg h0).trans (by rw [if_neg h1])
      rw [e]
      exact ⟨_, _, _, _, _, _, row, a1, c1, none, 0, a2, c2, rfl, rfl, rfl, fun hW hr => (by subst hr; simp at h0; omega)⟩
     ·exact (Ent.own_nil (Ent.refl _)).trans (Take.ent' (by repeat' constructor))


theorem endsR_keep (ch : Int) (s : RS) : (YR ch s).rows = s.rows ∧ (YR ch s).last = s.last ∧ (YR ch s).e = s.e := by unfold YR; split <;> exact ⟨rfl, rfl, rfl⟩
theorem stepR_keep (K M : Int) (s : RS) (c : Int) : (YN K M s c).1.rows = s.rows ∧ (YN K M s c).1.last = s.last ∧ (YN K M s c).1.e = s.e := by
  unfold YN bitR numR
  repeat' split
  all_goals first | exact ⟨rfl, rfl, rfl⟩ | exact endsR_keep _ _

theorem Put_gen (g : Nat) (K W H M n rows last e : Int) (stp : Value) [OneC stp] (a1 a2 : Option Addr) (c1 c2 : Nat) (one row : List Int) (c : Int) (f : Nat) [Ent1 Tryz.prog f] (hst : stp = .func (.func f) #[] #[]) (hf : Fn Tryz.prog f #[.pointer (some ⟨g, 0, none⟩), .int .u8 c] [QB g [.int .i64 K, .int .i64 W, .int .i64 H, .int .i64 M, stp, .int .i64 n, .slice a1 one.length c1, .slice a2 row.length c2, .int .i64 rows, .int .i64 last, .int .i64 e] 186, QG 3 1 a1 c1 (one).length (QU one), QG 92 1 a2 c2 (row).length (Q5 row)] (fun v l => v = .int .i64 (YN K M ⟨n, one, row, rows, last, e⟩ c).2 ∧ ∃ n' one' row' rows' last' e' a1 c1 a2 c2, (⟨n', one', row', rows', last', e'⟩ : RS) = (YN K M ⟨n, one, row, rows, last, e⟩ c).1 ∧ l = [QB g [.int .i64 K, .int .i64 W, .int .i64 H, .int .i64 M, stp, .int .i64 n', .slice a1 one'.length c1, .slice a2 row'.length c2, .int .i64 rows', .int .i64 last', .int .i64 e'] 186, QG 3 1 a1 c1 (one').length (QU one'), QG 92 1 a2 c2 (row').length (Q5 row')])) (h3 : 0 ≤ rows) (h4 : rows ≤ 2 ^ 60) : Fn Tryz.prog 127 #[.pointer (some ⟨g, 0, none⟩), .int .u8 c] [QB g [.int .i64 K, .int .i64 W, .int .i64 H, .int .i64 M, stp, .int .i64 n, .slice a1 one.length c1, .slice a2 row.length c2, .int .i64 rows, .int .i64 last, .int .i64 e] 186, QG 3 1 a1 c1 (one).length (QU one), QG 92 1 a2 c2 (row).length (Q5 row)] (fun v l => ∃ n' one' row' rows' last' e' out a1 c1 a2 c2 a3 c3, ((⟨n', one', row', rows', last', e'⟩ : RS), out) = YO K W H M ⟨n, one, row, rows, last, e⟩ c ∧ v = .tuple #[.slice a3 out.length c3, .int .i64 last'] ∧ l = [QB g [.int .i64 K, .int .i64 W, .int .i64 H, .int .i64 M, stp, .int .i64 n', .slice a1 one'.length c1, .slice a2 row'.length c2, .int .i64 rows', .int .i64 last', .int .i64 e'] 186, QG 3 1 a1 c1 (one').length (QU one'), QG 92 1 a2 c2 (row').length (Q5 row'), QG 92 1 a3 c3 (out).length (Q5 out)] ∧ (1 ≤ W → out = [] → a3 = none)) := by
 subst hst
 refine Qk (vs := [.pointer (some ⟨g, 0, none⟩), .int .u8 c]) Tryz.func127 rfl Tryz.ntmps127 rfl ?_
 refine Qb (Qa (Qe rfl rfl (Qe rfl rfl (WpL.nil (Qb (Qb (Qa (Qd rfl rfl (Qs rfl rfl (Qj (o2 := 9) rfl rfl rfl (Qo rfl rfl (by rfl) ?_)))))))))))
 refine Xj rfl rfl rfl (WpL.nil (Qm rfl (fun h0 => ?_) (fun h0 => ?_)))
 ·refine Qb ?_
  apply QS mixed [⟨13, _, []⟩, ⟨14, _, [0]⟩, ⟨15, _, [1]⟩, ⟨16, _, [2]⟩, ⟨4, _, []⟩, ⟨5, _, [3, 4, 0, 1, 2]⟩] rfl
  ·refine AllObs.mk ?_ ?_
   ·exact Qd rfl rfl (Ql rfl)
   refine AllObs.mk ?_ ?_
   ·exact Qs rfl rfl (Ql rfl)
   refine AllObs.mk ?_ ?_
   ·exact Qj (o2 := 9) rfl rfl rfl (Ql rfl)
   refine AllObs.mk ?_ ?_
   ·refine Qo rfl rfl (by rfl) ?_
    exact Ql rfl
   refine AllObs.mk ?_ ?_
   ·exact Qe rfl rfl (Ql rfl)
   refine AllObs.mk ?_ ?_
   ·exact Qe rfl rfl (Ql rfl)
   exact AllObs.nil
  ·refine Qh ?_
   apply RetQ.mk
   ·exact (QF rfl rfl rfl)
   ·have e : YO K W H M ⟨n, one, row, rows, last, e⟩ c = (⟨n, one, row, rows, last, e⟩, []) := if_pos h0
    rw [e]
    exact ⟨_, _, _, _, _, _, [], a1, c1, a2, c2, none, 0, rfl, rfl, rfl, fun _ _ => rfl⟩
   ·exact (Ent.own_nil (Ent.refl _)).trans (Take.ent' (by repeat' constructor))
 ·refine Wp.skip (Qb (Qb (Qa (Qd rfl rfl (Qs rfl rfl (Qj (o2 := 4) rfl rfl rfl (Qo rfl rfl (by rfl) ?_)))))))
  refine Qd rfl rfl (Qd rfl rfl (XU (u := []) (c := []) rfl rfl rfl rfl (by repeat' constructor) (hf) ?_))
  rintro _ _ ⟨rfl, n', one', row', rows', last', e', a1, c1, a2, c2, hs, rfl⟩
  simp only [Qr]
  have hk := stepR_keep K M ⟨n, one, row, rows, last, e⟩ c
  rw [← hs] at hk
  have hk1 : rows' = rows := hk.1
  have hk2 : last' = last := hk.2.1
  refine Qe rfl rfl (WpL.nil (Qb (Qa (Qd rfl rfl (Xj rfl rfl rfl (WpL.nil (Qm rfl (fun h1 => ?_) (fun h1 => ?_))))))))
  ·refine Qb (Qa (Qd rfl rfl (Qd rfl rfl (Qg rfl rfl (by repeat' constructor) (wrong_spec _ _ _ _ _ _ _ _ _ _ _ _ _ _ _ _ _) ?_))))
   rintro _ _ ⟨rfl, n2, one2, row2, rows2, last2, e2, a1, c1, a2, c2, hs2, rfl⟩
   simp only [Qr]
   obtain rfl : last2 = 2 := congrArg RS.last hs2
   refine QC rfl rfl rfl (QC rfl rfl rfl (Qe rfl rfl (Qe rfl rfl (WpL.nil (Qh ?_)))))
   apply RetQ.mk
   ·exact (QF rfl rfl rfl)
   ·have e : YO K W H M ⟨n, one, row, rows, last, e⟩ c = (wrongR (YN K M ⟨n, one, row, rows, last, e⟩ c).1 (YN K M ⟨n, one, row, rows, last, e⟩ c).2, []) := (if_neg h0).trans (if_pos h1)
    rw [e, ← hs]
    exact ⟨_, _, _, _, _, _, [], a1, c1, a2, c2, none, 0, (congrArg (·, []) hs2), rfl, rfl, fun _ _ => rfl⟩
   ·exact (Ent.own_nil (Ent.refl _)).trans (Take.ent' (by repeat' constructor))
  ·refine Wp.skip (Qb (Qa (Qd rfl rfl (Qg rfl rfl (by repeat' constructor) (full_spec _ _ _ _ _ _ _ _ _ _ _ _ _ _ _ _ (by omega) (by omega)) ?_))))
   rintro _ _ ⟨n2, one2, row2, rows2, last2, e2, out, a1, c1, a2, c2, a3, c3, hs2, rfl, rfl, hnl2⟩
   simp only [Qr]
   refine Qe rfl rfl (WpL.nil (Qb ?_))
   apply QS mixed [⟨33, _, []⟩, ⟨34, _, []⟩, ⟨35, _, [1]⟩, ⟨36, _, [2]⟩, ⟨37, _, [3]⟩, ⟨4, _, [0]⟩, ⟨5, _, [4, 5, 0, 1, 2, 3]⟩] rfl
   ·refine AllObs.mk ?_ ?_
    ·exact Qd rfl rfl (Ql rfl)
    refine AllObs.mk ?_ ?_
    ·exact Qd rfl rfl (Ql rfl)
    refine AllObs.mk ?_ ?_
    ·exact Qs rfl rfl (Ql rfl)
    refine AllObs.mk ?_ ?_
    ·exact Qj (o2 := 9) rfl rfl rfl (Ql rfl)
    refine AllObs.mk ?_ ?_
    ·refine Qo rfl rfl (by rfl) ?_
     exact Ql rfl
    refine AllObs.mk ?_ ?_
    ·exact Qe rfl rfl (Ql rfl)
    refine AllObs.mk ?_ ?_
    ·exact Qe rfl rfl (Ql rfl)
    exact AllObs.nil
   ·refine Qh ?_
    apply RetQ.mk
    ·exact (QF rfl rfl rfl)
    ·have e : YO K W H M ⟨n, one, row, rows, last, e⟩ c = YJ W H (YN K M ⟨n, one, row, rows, last, e⟩ c).1 := (if_neg h0).trans (if_neg h1)
     rw [e, ← hs]
     exact ⟨_, _, _, _, _, _, _, a1, c1, a2, c2, a3, c3, hs2, rfl, rfl, hnl2⟩
    ·exact Ent.refl _

theorem End_spec (g : Nat) (K W H M n rows last e : Int) (stp : Value) [OneC stp] (a1 a2 : Option Addr) (c1 c2 : Nat) (one row : List Int) (hK : 0 ≤ K) (h1 : one.length ≤ 3) (h2 : row.length ≤ 1000000000000) (h3 : 0 ≤ rows) (h4 : rows ≤ 2 ^ 60) : Fn Tryz.prog 62 #[.pointer (some ⟨g, 0, none⟩)] [QB g [.int .i64 K, .int .i64 W, .int .i64 H, .int .i64 M, stp, .int .i64 n, .slice a1 one.length c1, .slice a2 row.length c2, .int .i64 rows, .int .i64 last, .int .i64 e] 186, QG 3 1 a1 c1 (one).length (QU one), QG 92 1 a2 c2 (row).length (Q5 row)] (fun v l => ∃ n' one' row' rows' last' e' out a1 c1 a2 c2 a3 c3, ((⟨n', one', row', rows', last', e'⟩ : RS), out) = endR K W H ⟨n, one, row, rows, last, e⟩ ∧ v = .tuple #[.slice a3 out.length c3, .int .i64 last'] ∧ l = [QB g [.int .i64 K, .int .i64 W, .int .i64 H, .int .i64 M, stp, .int .i64 n', .slice a1 one'.length c1, .slice a2 row'.length c2, .int .i64 rows', .int .i64 last', .int .i64 e'] 186, QG 3 1 a1 c1 (one').length (QU one'), QG 92 1 a2 c2 (row').length (Q5 row'), QG 92 1 a3 c3 (out).length (Q5 out)] ∧ (1 ≤ W → out = [] → a3 = none)) := by
 refine Qk (vs := [.pointer (some ⟨g, 0, none⟩)]) Tryz.func62 rfl Tryz.ntmps62 rfl ?_
 refine Qb (Qa (Qe rfl rfl (Qe rfl rfl (WpL.nil (Qb (Qb (Qa (Qd rfl rfl (Qs rfl rfl (Qj (o2 := 9) rfl rfl rfl (Qo rfl rfl (by rfl) ?_)))))))))))
 refine Xj rfl rfl rfl (WpL.nil (Qm rfl (fun h0 => ?_) (fun h0 => ?_)))
 ·refine Qb ?_
  apply QS mixed [⟨10, _, []⟩, ⟨11, _, [0]⟩, ⟨12, _, [1]⟩, ⟨13, _, [2]⟩, ⟨2, _, []⟩, ⟨3, _, [3, 4, 0, 1, 2]⟩] rfl
  ·refine AllObs.mk ?_ ?_
   ·exact Qd rfl rfl (Ql rfl)
   refine AllObs.mk ?_ ?_
   ·exact Qs rfl rfl (Ql rfl)
   refine AllObs.mk ?_ ?_
   ·exact Qj (o2 := 9) rfl rfl rfl (Ql rfl)
   refine AllObs.mk ?_ ?_
   ·refine Qo rfl rfl (by rfl) ?_
    exact Ql rfl
   refine AllObs.mk ?_ ?_
   ·exact Qe rfl rfl (Ql rfl)
   refine AllObs.mk ?_ ?_
   ·exact Qe rfl rfl (Ql rfl)
   exact AllObs.nil
  ·refine Qh ?_
   apply RetQ.mk
   ·exact (QF rfl rfl rfl)
   ·have e : endR K W H ⟨n, one, row, rows, last, e⟩ = (⟨n, one, row, rows, last, e⟩, []) := if_pos h0
    rw [e]
    exact ⟨_, _, _, _, _, _, [], a1, c1, a2, c2, none, 0, rfl, rfl, rfl, fun _ _ => rfl⟩
   ·exact (Ent.own_nil (Ent.refl _)).trans (Take.ent' (by repeat' constructor))
 ·refine Wp.skip (Qb (Qa (Qd rfl rfl (Qg rfl rfl (by repeat' constructor) (ends_spec _ _ _ _ _ _ _ _ _ _ _ _ _ _ _ _ (by omega) (by omega) (by omega)) ?_))))
  rintro _ _ ⟨rfl, n', one', row', rows', last', e', a1, c1, a2, c2, hs, rfl⟩
  simp only [Qr]
  have hk := endsR_keep (QZ K) ⟨n, one, row, rows, last, e⟩
  rw [← hs] at hk
  have hk1 : rows' = rows := hk.1
  have hk2 : last' = last := hk.2.1
  refine WpL.nil (Qb (Qa (Qd rfl rfl (Qg rfl rfl (by repeat' constructor) (full_spec _ _ _ _ _ _ _ _ _ _ _ _ _ _ _ _ (by omega) (by omega)) ?_))))
  rintro _ _ ⟨n2, one2, row2, rows2, last2, e2, out, a1, c1, a2, c2, a3, c3, hs2, rfl, rfl, hnl2⟩
  simp only [Qr]
  refine Qe rfl rfl (WpL.nil (Qb (Qb (Qa (Qd rfl rfl (Qs rfl rfl (Qj (o2 := 9) rfl rfl rfl (Qo rfl rfl (by rfl) ?_))))))))
  refine QO rfl rfl rfl (WpL.nil (Qm rfl (fun h1 => ?_) (fun h1 => ?_)))
  ·refine Qa (Qd rfl rfl (Qd rfl rfl (Qs rfl rfl (Qj (o2 := 10) rfl rfl rfl (Q0 rfl rfl rfl (Qs rfl rfl (Qj (o2 := 9) rfl rfl rfl (Q0 rfl rfl rfl (WpL.nil (Qb ?_))))))))))
   apply QS mixed [⟨29, _, []⟩, ⟨30, _, []⟩, ⟨31, _, [1]⟩, ⟨32, _, [2]⟩, ⟨33, _, [3]⟩, ⟨2, _, [0]⟩, ⟨3, _, [4, 5, 0, 1, 2, 3]⟩] rfl
   ·refine AllObs.mk ?_ ?_
    ·exact Qd rfl rfl (Ql rfl)
    refine AllObs.mk ?_ ?_
    ·exact Qd rfl rfl (Ql rfl)
    refine AllObs.mk ?_ ?_
    ·exact Qs rfl rfl (Ql rfl)
    refine AllObs.mk ?_ ?_
    ·exact Qj (o2 := 9) rfl rfl rfl (Ql rfl)
    refine AllObs.mk ?_ ?_
    ·refine Qo rfl rfl (by rfl) ?_
     exact Ql rfl
    refine AllObs.mk ?_ ?_
    ·exact Qe rfl rfl (Ql rfl)
    refine AllObs.mk ?_ ?_
    ·exact Qe rfl rfl (Ql rfl)
    exact AllObs.nil
   ·refine Qh ?_
    apply RetQ.mk
    ·exact (QF rfl rfl rfl)
    ·have e : endR K W H ⟨n, one, row, rows, last, e⟩ = (wrongR (YJ W H (YR (QZ K) ⟨n, one, row, rows, last, e⟩)).1 6, (YJ W H (YR (QZ K) ⟨n, one, row, rows, last, e⟩)).2) := (if_neg h0).trans (if_pos (by rw [← hs, ← hs2]; exact h1))
     rw [e, ← hs, ← hs2]
     exact ⟨_, _, _, _, _, _, _, a1, c1, a2, c2, a3, c3, rfl, rfl, rfl, hnl2⟩
    ·exact Ent.refl _
  ·refine Wp.skip (Qb ?_)
   apply QS mixed [⟨29, _, []⟩, ⟨30, _, []⟩, ⟨31, _, [1]⟩, ⟨32, _, [2]⟩, ⟨33, _, [3]⟩, ⟨2, _, [0]⟩, ⟨3, _, [4, 5, 0, 1, 2, 3]⟩] rfl
   ·refine AllObs.mk ?_ ?_
    ·exact Qd rfl rfl (Ql rfl)
    refine AllObs.mk ?_ ?_
    ·exact Qd rfl rfl (Ql rfl)
    refine AllObs.mk ?_ ?_
    ·exact Qs rfl rfl (Ql rfl)
    refine AllObs.mk ?_ ?_
    ·exact Qj (o2 := 9) rfl rfl rfl (Ql rfl)
    refine AllObs.mk ?_ ?_
    ·refine Qo rfl rfl (by rfl) ?_
     exact Ql rfl
    refine AllObs.mk ?_ ?_
    ·exact Qe rfl rfl (Ql rfl)
    refine AllObs.mk ?_ ?_
    ·exact Qe rfl rfl (Ql rfl)
    exact AllObs.nil
   ·refine Qh ?_
    apply RetQ.mk
    ·exact (QF rfl rfl rfl)
    ·have e : endR K W H ⟨n, one, row, rows, last, e⟩ = YJ W H (YR (QZ K) ⟨n, one, row, rows, last, e⟩) := (if_neg h0).trans (if_neg (by rw [← hs, ← hs2]; exact h1))
     rw [e, ← hs]
     exact ⟨_, _, _, _, _, _, _, a1, c1, a2, c2, a3, c3, hs2, rfl, rfl, hnl2⟩
    ·exact Ent.refl _


theorem Error_spec (g : Nat) (K W H M n rows last e : Int) (stp : Value) [OneC stp] (a1 a2 : Option Addr) (c1 c2 : Nat) (one row : List Int) : Fn Tryz.prog 128 #[.pointer (some ⟨g, 0, none⟩)] [QB g [.int .i64 K, .int .i64 W, .int .i64 H, .int .i64 M, stp, .int .i64 n, .slice a1 one.length c1, .slice a2 row.length c2, .int .i64 rows, .int .i64 last, .int .i64 e] 186, QG 3 1 a1 c1 (one).length (QU one), QG 92 1 a2 c2 (row).length (Q5 row)] (fun v l => v = .int .i64 e ∧ l = [QB g [.int .i64 K, .int .i64 W, .int .i64 H, .int .i64 M, stp, .int .i64 n, .slice a1 one.length c1, .slice a2 row.length c2, .int .i64 rows, .int .i64 last, .int .i64 e] 186, QG 3 1 a1 c1 (one).length (QU one), QG 92 1 a2 c2 (row).length (Q5 row)]) := by
 refine Qk (vs := [.pointer (some ⟨g, 0, none⟩)]) Tryz.func128 rfl Tryz.ntmps128 rfl ?_
 refine Qb (Qa (Qe rfl rfl (WpL.nil (Qb (Qa (Qd rfl rfl (Qs rfl rfl (Qj (o2 := 10) rfl rfl rfl (Qo rfl rfl (by rfl) ?_)))))))))
 refine Qe rfl rfl (WpL.nil (Qh ?_))
 apply RetQ.mk
 ·exact (Res.one rfl rfl)
 ·exact ⟨rfl, rfl⟩
 ·exact Ent.refl _

def PlainH (K W H M : Int) : Prop := X6 K W H M ∧ ¬ (4 ≤ K ∧ K ≤ 6)
instance (K W H M : Int) : Decidable (PlainH K W H M) := by unfold PlainH; infer_instance
def stpOf (K : Int) : Value := if K = 1 then .func (.func 170) #[] #[] else .func (.func 169) #[] #[]
instance (K : Int) : OneC (stpOf K) := by unfold stpOf; split <;> infer_instance

theorem New_spec (K W H M : Int) : Fn Tryz.prog 126 #[.agg #[.int .i64 K, .int .i64 W, .int .i64 H, .int .i64 M]] [] (fun v l => (PlainH K W H M ∧ ∃ g, v = .tuple #[.pointer (some ⟨g, 0, none⟩), .int .i64 0] ∧ l = [QB g [.int .i64 K, .int .i64 W, .int .i64 H, .int .i64 M, stpOf K, .int .i64 (-1), .slice none 0 0, .slice none 0 0, .int .i64 0, .int .i64 0, .int .i64 0] 186, QG 3 1 none 0 0 (QU []), QG 92 1 none 0 0 (Q5 [])]) ∨ (¬ PlainH K W H M ∧ v = .tuple #[.pointer none, .int .i64 1] ∧ l = [])) := by
 refine Qk (vs := [.agg #[.int .i64 K, .int .i64 W, .int .i64 H, .int .i64 M]]) Tryz.func126 rfl Tryz.ntmps126 rfl (Qb (Qa (QP rfl rfl rfl ?_)))
 intro g1
 refine Qe rfl rfl (Qe rfl rfl (WpL.nil (Qb (Qb (Qa ?_)))))
 refine Qz (vs := [_, _, _, _]) rfl rfl rfl (by rfl) ?_
 refine Qg rfl rfl (by repeat' constructor) (May_spec _ _ _ _) ?_
 rintro _ _ ⟨rfl, rfl⟩
 simp only [Qr]
 refine XY rfl rfl (Qd rfl rfl (QH rfl rfl rfl (fun hg1 => ?_) (fun hg1 => ?_)))
 ·have hg1 := of_decide_eq_false hg1
  refine Qz (vs := [_, _, _, _]) rfl rfl rfl (by rfl) ?_
  refine Qf rfl rfl (Qg rfl rfl (by repeat' constructor) (Y0 _ _ _ _) ?_)
  rintro _ _ ⟨rfl, rfl⟩
  simp only [Qr]
  refine Qq rfl rfl rfl (WpL.nil (Qm rfl (fun h0 => ?_) (fun h0 => ?_)))
  ·refine Qb (Qa (Qe rfl rfl (Qe rfl rfl (WpL.nil (Qh ?_)))))
   apply RetQ.mk
   ·exact (QF rfl rfl rfl)
   ·exact Or.inr ⟨fun h => h.2 h0, rfl, rfl⟩
   ·exact Ent.nil _
  ·refine Wp.skip (Qb (Qa ?_))
   refine Qz (vs := [_, _, _, _]) rfl rfl rfl (by rfl) ?_
   refine XN rfl rfl ?_
   refine QP rfl rfl rfl ?_
   intro g2
   refine Qe rfl rfl (WpL.nil (Qb (Qb (Qa (Qj (o2 := 0) rfl rfl rfl (Qo rfl rfl (by rfl) ?_))))))
   refine QO rfl rfl rfl (WpL.nil (Qm rfl (fun h1 => ?_) (fun h1 => ?_)))
   ·refine Qa (Qd rfl rfl (Qs rfl rfl (Qj (o2 := 4) rfl rfl rfl (Q0 rfl rfl rfl (WpL.nil (Qb (Qa (Qd rfl rfl (Qe rfl rfl (Qe rfl rfl (WpL.nil (Qh ?_))))))))))))
    apply RetQ.mk
    ·exact (QF rfl rfl rfl)
    ·exact Or.inl ⟨⟨Classical.not_not.1 hg1, h0⟩, g2, rfl, rfl⟩
    ·rw [show stpOf K = _ from if_pos h1]
     exact ((Ent.own_nil (Ent.refl _)).trans ((Ent.own_nil (Ent.refl _)).trans (Take.ent' (by repeat' constructor))))
   ·refine Wp.skip (Qb (Qa (Qd rfl rfl (Qe rfl rfl (Qe rfl rfl (WpL.nil (Qh ?_)))))))
    apply RetQ.mk
    ·exact (QF rfl rfl rfl)
    ·exact Or.inl ⟨⟨Classical.not_not.1 hg1, h0⟩, g2, rfl, rfl⟩
    ·rw [show stpOf K = _ from if_neg h1]
     exact ((Ent.own_nil (Ent.refl _)).trans ((Ent.own_nil (Ent.refl _)).trans (Take.ent' (by repeat' constructor))))
 ·have hg1 := of_decide_eq_true hg1
  refine Qc rfl rfl rfl (by decide) (Qx rfl rfl rfl (WpL.nil (XG rfl (Qb (Qa (Qe rfl rfl (Qe rfl rfl (WpL.nil (Qh ?_)))))))))
  apply RetQ.mk
  ·exact (QF rfl rfl rfl)
  ·exact Or.inr ⟨fun h => hg1 h.1, rfl, rfl⟩
  ·exact Ent.nil _

theorem Put_spec (g : Nat) (K W H M n rows last e : Int) (stp : Value) [OneC stp] (a1 a2 : Option Addr) (c1 c2 : Nat) (one row : List Int) (c : Int) (hst : stp = stpOf K) (hK : 0 ≤ K) (h1 : one.length ≤ 3) (h2 : row.length ≤ 1000000000000) (hc : 0 ≤ c) (hc2 : c ≤ 255) (hM : 0 ≤ M) (hN : M ≤ 2 ^ 60) (h3 : 0 ≤ rows) (h4 : rows ≤ 2 ^ 60) :
    Fn Tryz.prog 127 #[.pointer (some ⟨g, 0, none⟩), .int .u8 c] [QB g [.int .i64 K, .int .i64 W, .int .i64 H, .int .i64 M, stp, .int .i64 n, .slice a1 one.length c1, .slice a2 row.length c2, .int .i64 rows, .int .i64 last, .int .i64 e] 186, QG 3 1 a1 c1 (one).length (QU one), QG 92 1 a2 c2 (row).length (Q5 row)] (fun v l => ∃ n' one' row' rows' last' e' out a1 c1 a2 c2 a3 c3, ((⟨n', one', row', rows', last', e'⟩ : RS), out) = YO K W H M ⟨n, one, row, rows, last, e⟩ c ∧ v = .tuple #[.slice a3 out.length c3, .int .i64 last'] ∧ l = [QB g [.int .i64 K, .int .i64 W, .int .i64 H, .int .i64 M, stp, .int .i64 n', .slice a1 one'.length c1, .slice a2 row'.length c2, .int .i64 rows', .int .i64 last', .int .i64 e'] 186, QG 3 1 a1 c1 (one').length (QU one'), QG 92 1 a2 c2 (row').length (Q5 row'), QG 92 1 a3 c3 (out).length (Q5 out)] ∧ (1 ≤ W → out = [] → a3 = none)) := by
  by_cases h : K = 1
  · refine Put_gen g K W H M n rows last e stp a1 a2 c1 c2 one row c 170 (hst.trans (if_pos h)) ?_ h3 h4
    have := bit_spec g K W H M n rows last e stp a1 a2 c1 c2 one row hK h1 h2 c hc hc2
    rw [show YN K M ⟨n, one, row, rows, last, e⟩ c = bitR (QZ K) ⟨n, one, row, rows, last, e⟩ c from if_pos h]
    exact this
  · refine Put_gen g K W H M n rows last e stp a1 a2 c1 c2 one row c 169 (hst.trans (if_neg h)) ?_ h3 h4
    have := number_spec g K W H M n rows last e stp a1 a2 c1 c2 one row hK h1 h2 c hc hc2 hM hN
    rw [show YN K M ⟨n, one, row, rows, last, e⟩ c = numR (QZ K) M ⟨n, one, row, rows, last, e⟩ c from if_neg h]
    exact this

end Go.Proofs.YtggamdlpiejbiaaGreat
namespace Go.Proofs.YtggamdlpiejbiaaGreat
open Go.RowKit Go.Shelf

/-- A number's reader: 0 ahead, 1 a remark ahead, 2 digits, 3 a remark behind, 4 over, 5 wrong. -/
structure TS where
  (ph n e : Int)
def tk0 : TS := ⟨0, 0, 9⟩
def eol (c : Int) : Prop := c = 10 ∨ c = 13
instance (c : Int) : Decidable (eol c) := by unfold eol; infer_instance
def QR (most : Int) (s : TS) (c : Int) : TS × Int :=
  if s.ph = 4 then (s, 1) else if s.ph = 5 then (s, 2) else
  if s.ph = 1 then (if eol c then ⟨0, s.n, s.e⟩ else s, 0) else
  if s.ph = 3 then (if eol c then (⟨4, s.n, 0⟩, 1) else (s, 0)) else
  if c = 35 then (⟨s.ph + 1, s.n, s.e⟩, 0) else
  if XW c = true then (if s.ph = 0 then (s, 0) else (⟨4, s.n, 0⟩, 1)) else
  if (Xr s.n c most).2 ≠ 0 then (⟨5, 0, (Xr s.n c most).2⟩, 2) else (⟨2, (Xr s.n c most).1, s.e⟩, 0)
/-- What a number's reader may be, between bytes. -/
def YW (most : Int) (s : TS) : Prop := 0 ≤ s.ph ∧ s.ph ≤ 3 ∧ 0 ≤ s.n ∧ s.n ≤ most ∧ s.e = 9
theorem stepN_ok {n c most : Int} (h0 : 0 ≤ n) (h : (Xr n c most).2 = 0) : 0 ≤ (Xr n c most).1 ∧ (Xr n c most).1 ≤ most := by
  unfold Xr at *
  split at h
  · simp at h
  · rename_i h1
    rw [if_neg h1]
    split at h
    · simp at h
    · rename_i h2
      rw [if_neg h2]
      simp only
      omega
theorem stepN_e {n c most : Int} : (Xr n c most).2 = 0 ∨ (Xr n c most).2 = 3 ∨ (Xr n c most).2 = 4 := by
  unfold Xr
  split
  · simp
  · split <;> simp
theorem tkPut_cases {most : Int} {s : TS} {c : Int} (h : YW most s) : ((QR most s c).2 = 0 ∧ YW most (QR most s c).1) ∨ ((QR most s c).2 = 1 ∧ (QR most s c).1.ph = 4 ∧ (QR most s c).1.e = 0 ∧ 0 ≤ (QR most s c).1.n ∧ (QR most s c).1.n ≤ most) ∨ ((QR most s c).2 = 2 ∧ (QR most s c).1.ph = 5 ∧ (QR most s c).1.n = 0 ∧ ((QR most s c).1.e = 3 ∨ (QR most s c).1.e = 4)) := by
  obtain ⟨h1, h2, h3, h4, h5⟩ := h
  have he := @stepN_e s.n c most
  unfold QR
  rw [if_neg (by omega), if_neg (by omega)]
  split
  · left
    refine ⟨rfl, ?_⟩
    simp only
    split
    · exact ⟨by simp, by simp, h3, h4, h5⟩
    · exact ⟨h1, h2, h3, h4, h5⟩
  · split
    · split
      · exact .inr (.inl ⟨rfl, rfl, rfl, h3, h4⟩)
      · exact .inl ⟨rfl, h1, h2, h3, h4, h5⟩
    · split
      · left; exact ⟨rfl, by simp only; omega, by simp only; omega, h3, h4, h5⟩
      · split
        · split
          · exact .inl ⟨rfl, h1, h2, h3, h4, h5⟩
          · exact .inr (.inl ⟨rfl, rfl, rfl, h3, h4⟩)
        · split
          · rename_i h6
            exact .inr (.inr ⟨rfl, rfl, rfl, by simp only; omega⟩)
          · rename_i h6
            have := stepN_ok (c := c) (most := most) h3 (Classical.not_not.1 h6)
            exact .inl ⟨rfl, by simp, by simp, this.1, this.2, h5⟩
/-- A head's reader. -/
structure HS where
  (K W H M at_ i : Int) (t : TS) (last e : Int)
def hd0 : HS := ⟨0, 0, 0, 0, 0, 0, tk0, 0, 9⟩
def X0 (l0 l1 l2 i : Int) : Int := if i = 0 then l0 else if i = 1 then l1 else l2
def Zc (K : Int) : Prop := K = 1 ∨ K = 4
instance (K : Int) : Decidable (Zc K) := by unfold Zc; infer_instance
def XJ (l0 : Int) (s : HS) (c : Int) : HS :=
  if (s.at_ + 1 = 1 ∧ c ≠ 80) ∨ (s.at_ + 1 = 2 ∧ (c < 49 ∨ 54 < c)) then { s with at_ := s.at_ + 1, last := 2, e := 2 } else
  if s.at_ + 1 = 2 then { s with at_ := s.at_ + 1, K := c - 48, last := 0 } else
  if s.at_ + 1 = 3 then (if XW c = false ∧ c ≠ 35 then { s with at_ := s.at_ + 1, last := 2, e := 3 } else { s with at_ := s.at_ + 1, t := (QR l0 tk0 c).1, last := 0 }) else
  { s with at_ := s.at_ + 1, last := 0 }
def Y2 (s : HS) (n : Int) : HS := if s.i = 0 then { s with W := n } else if s.i = 1 then { s with H := n } else { s with M := n }
def Yf (s : HS) : HS := if s.i + 1 = 2 ∧ Zc s.K then { s with M := 1, i := 3 } else { s with i := s.i + 1 }
def Xq (l0 l1 l2 : Int) (s : HS) (c : Int) : HS :=
  if (QR (X0 l0 l1 l2 s.i) s.t c).2 = 0 then { s with t := (QR (X0 l0 l1 l2 s.i) s.t c).1, last := 0 } else
  if (QR (X0 l0 l1 l2 s.i) s.t c).2 = 2 then { s with t := (QR (X0 l0 l1 l2 s.i) s.t c).1, last := 2, e := (QR (X0 l0 l1 l2 s.i) s.t c).1.e } else
  if (QR (X0 l0 l1 l2 s.i) s.t c).1.n = 0 then { s with t := (QR (X0 l0 l1 l2 s.i) s.t c).1, last := 2, e := 4 } else
  if (Yf (Y2 s (QR (X0 l0 l1 l2 s.i) s.t c).1.n)).i < 3 then { Yf (Y2 s (QR (X0 l0 l1 l2 s.i) s.t c).1.n) with t := tk0, last := 0 } else
  { Yf (Y2 s (QR (X0 l0 l1 l2 s.i) s.t c).1.n) with t := (QR (X0 l0 l1 l2 s.i) s.t c).1, last := 1, e := 0 }
def XA (l0 l1 l2 : Int) (s : HS) (c : Int) : HS := if s.last ≠ 0 then s else if s.at_ < 3 then XJ l0 s c else Xq l0 l1 l2 s c
/-- A head's reader told bytes: how it is when it ends, and how many it was told. -/
def XE (l0 l1 l2 : Int) : HS → List Int → Int → HS × Int
  | s, [], n => (s, n)
  | s, c :: bs, n => if (XA l0 l1 l2 s c).last ≠ 0 then (XA l0 l1 l2 s c, n + 1) else XE l0 l1 l2 (XA l0 l1 l2 s c) bs (n + 1)
/-- The head that bytes begin with, how many bytes it has, the error. -/
def XV (l0 l1 l2 : Int) (bs : List Int) : (Int × Int × Int × Int) × Int × Int :=
  if (XE l0 l1 l2 hd0 bs 0).1.last = 1 then (((XE l0 l1 l2 hd0 bs 0).1.K, (XE l0 l1 l2 hd0 bs 0).1.W, (XE l0 l1 l2 hd0 bs 0).1.H, (XE l0 l1 l2 hd0 bs 0).1.M), (XE l0 l1 l2 hd0 bs 0).2, 0) else
  if (XE l0 l1 l2 hd0 bs 0).1.last = 2 then ((0, 0, 0, 0), (XE l0 l1 l2 hd0 bs 0).2, (XE l0 l1 l2 hd0 bs 0).1.e) else ((0, 0, 0, 0), bs.length, 6)

end Go.Proofs.YtggamdlpiejbiaaGreat
