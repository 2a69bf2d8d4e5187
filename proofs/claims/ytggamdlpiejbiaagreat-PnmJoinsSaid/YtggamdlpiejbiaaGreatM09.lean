/- Walks and plain laws, a part of the proof of PnmJoins: every input that the law's guards let in, no condition beside. -/
import Derived.Test.YtggamdlpiejbiaaGreatM08
namespace Go.Proofs.YtggamdlpiejbiaaGreat
open Go.RowKit Go.Shelf


def nxV (g : Nat) (ph : Int) : Value := .func (.func (if ph = 0 then 202 else if ph = 1 then 206 else if ph = 2 then 211 else 212)) #[.pointer (some ⟨g, 0, none⟩)] #[]

theorem ends2_spec (c : Int) : Fn Tryz.prog 210 #[.int .u8 c] [] (fun v l => v = .bool (decide (eol c)) ∧ l = []) := by
 refine Qk (vs := [.int .u8 c]) Tryz.func210 rfl Tryz.ntmps210 rfl (Qb (Qa (Qe rfl rfl (WpL.nil (Qb (Qa (Qc rfl rfl (QN rfl rfl rfl (Qc rfl rfl (QK rfl rfl rfl (fun hg1 => ?_) (fun hg1 => ?_)))))))))))
 ·have hg1 := of_decide_eq_false hg1
  refine Qc rfl rfl (Qf rfl rfl (QN rfl rfl rfl (Qs rfl rfl rfl (Qe rfl rfl (WpL.nil (Qi ?_))))))
  apply RetQ.mk
  ·exact (Res.one rfl rfl)
  ·exact ⟨congrArg Value.bool (by exact dd (by unfold eol; omega)), rfl⟩
  ·exact Ent.refl _
 ·have hg1 := of_decide_eq_true hg1
  refine Qd rfl rfl rfl (by decide) (Qt rfl rfl rfl (Qe rfl rfl (WpL.nil (Qi ?_))))
  apply RetQ.mk
  ·exact (Res.one rfl rfl)
  ·exact ⟨congrArg Value.bool (by exact dt (by unfold eol; omega)), rfl⟩
  ·exact Ent.refl _

theorem digit_spec (g : Nat) (most n e : Int) (la : Int) (bg : Bool) (nx : Value) (c : Int) (hc0 : 0 ≤ c) (hc1 : c ≤ 255) (hn0 : 0 ≤ n) (hm0 : 0 ≤ most) (hm1 : most ≤ 1000000) : Fn Tryz.prog 207 #[.pointer (some ⟨g, 0, none⟩), .int .u8 c] [QA g [nx, .int .i64 most, .int .i64 n, .bool bg, .int .i64 la, .int .i64 e] 265] (fun v l => ((Xo n c most).2 ≠ 0 ∧ v = .int .i64 2 ∧ l = [QA g [nx, .int .i64 most, .int .i64 0, .bool bg, .int .i64 la, .int .i64 (Xo n c most).2] 265]) ∨ ((Xo n c most).2 = 0 ∧ v = .int .i64 0 ∧ l = [QA g [.func (.func 211) #[.pointer (some ⟨g, 0, none⟩)] #[], .int .i64 most, .int .i64 (Xo n c most).1, .bool true, .int .i64 la, .int .i64 e] 265])) := by
 refine Qk (vs := [.pointer (some ⟨g, 0, none⟩), .int .u8 c]) Tryz.func207 rfl Tryz.ntmps207 rfl ?_
 refine Qb (Qa (Qe rfl rfl (WpL.nil (Qb ?_))))
 apply Q0 mixed [⟨8, _, []⟩, ⟨9, _, [0]⟩, ⟨10, _, [1]⟩, ⟨11, _, [2]⟩, ⟨12, _, []⟩, ⟨13, _, []⟩, ⟨14, _, [5]⟩, ⟨15, _, [6]⟩, ⟨16, _, [7]⟩, ⟨17, _, [3, 4, 8]⟩, ⟨7, _, [9]⟩, ⟨18, _, [10]⟩, ⟨19, _, [10]⟩, ⟨5, _, [11, 9, 0, 1, 2, 3, 4, 5, 6, 7, 8, 10]⟩, ⟨6, _, [12, 13, 0, 1, 2, 3, 4, 5, 6, 7, 8, 9, 10, 11]⟩] rfl
 ·refine AllObs.mk ?_ ?_
  ·exact Qc rfl rfl (Qm rfl)
  refine AllObs.mk ?_ ?_
  ·exact Qq rfl rfl (Qm rfl)
  refine AllObs.mk ?_ ?_
  ·exact Qj (o2 := 2) rfl rfl rfl (Qm rfl)
  refine AllObs.mk ?_ ?_
  ·refine Qo rfl rfl (by rfl) ?_
   exact Qm rfl
  refine AllObs.mk ?_ ?_
  ·exact Qc rfl rfl (Qm rfl)
  refine AllObs.mk ?_ ?_
  ·exact Qc rfl rfl (Qm rfl)
  refine AllObs.mk ?_ ?_
  ·exact Qq rfl rfl (Qm rfl)
  refine AllObs.mk ?_ ?_
  ·exact Qj (o2 := 1) rfl rfl rfl (Qm rfl)
  refine AllObs.mk ?_ ?_
  ·refine Qo rfl rfl (by rfl) ?_
   exact Qm rfl
  refine AllObs.mk ?_ ?_
  ·refine Qh rfl rfl (by repeat' constructor) (Step_spec _ _ _ hc0 hc1 hn0 hm0 (by omega)) ?_
   rintro _ _ ⟨rfl, rfl⟩
   simp only [Qr]
   exact WpL.nil ⟨rfl, rfl, rfl, by exact Ent.refl _⟩
  refine AllObs.mk ?_ ?_
  ·exact Qc rfl rfl (Qm rfl)
  refine AllObs.mk ?_ ?_
  ·exact QH rfl rfl rfl (Qm rfl)
  refine AllObs.mk ?_ ?_
  ·exact QH rfl rfl rfl (Qm rfl)
  refine AllObs.mk ?_ ?_
  ·exact Qe rfl rfl (Qm rfl)
  refine AllObs.mk ?_ ?_
  ·exact Qe rfl rfl (Qm rfl)
  exact AllObs.nil
 ·refine Qb (Wp.block ?_)
  refine Qb (Qa (Qc rfl rfl (Xn rfl rfl rfl (Qe rfl rfl (WpL.nil (Ql rfl (fun h0 => ?_) (fun h0 => ?_)))))))
  ·refine Qb (Qa (Qc rfl rfl (Qc rfl rfl (Qc rfl rfl (Qq rfl rfl (Qj (o2 := 2) rfl rfl rfl (Q3 rfl rfl rfl (Qq rfl rfl (Qj (o2 := 5) rfl rfl rfl (Q3 rfl rfl rfl (WpL.nil (Qb ?_))))))))))))
   refine Qa (Qe rfl rfl (WpL.nil (Qi ?_)))
   apply RetQ.mk
   ·exact (Res.one rfl rfl)
   ·exact .inl ⟨h0, rfl, rfl⟩
   ·exact Ent.refl _
  ·refine Wp.skip (Qb (Qa (Qc rfl rfl (Qc rfl rfl (Qc rfl rfl (Qc rfl rfl (Qc rfl rfl (ZV rfl rfl rfl (Qq rfl rfl (Qj (o2 := 2) rfl rfl rfl (Q3 rfl rfl rfl (Qq rfl rfl ?_))))))))))))
   refine Qj (o2 := 3) rfl rfl rfl (Q3 rfl rfl rfl (Qq rfl rfl (Qj (o2 := 0) rfl rfl rfl (Q3 rfl rfl rfl (WpL.nil (Qb (Qa (Qe rfl rfl (WpL.nil (Qi ?_))))))))))
   apply RetQ.mk
   ·exact (Res.one rfl rfl)
   ·exact .inr ⟨Classical.not_not.1 h0, rfl, rfl⟩
   ·exact Ent.refl _

theorem blank_35 {c : Int} (h : Q6 c = true) : c ≠ 35 := by unfold Q6 at h; have := of_decide_eq_true h; omega

theorem tk_ahead (g : Nat) (most n e : Int) (la : Int) (bg : Bool) (c : Int) (hc0 : 0 ≤ c) (hc1 : c ≤ 255) (hn0 : 0 ≤ n) (hm0 : 0 ≤ most) (hm1 : most ≤ 1000000) : Fn Tryz.prog 202 #[.pointer (some ⟨g, 0, none⟩), .int .u8 c] [QA g [.func (.func 202) #[.pointer (some ⟨g, 0, none⟩)] #[], .int .i64 most, .int .i64 n, .bool bg, .int .i64 la, .int .i64 e] 265] (fun v l => ∃ s' r bg' nx', ((s', r) : TS × Int) = QV most ⟨0, n, e⟩ c ∧ v = .int .i64 r ∧ (r = 0 → nx' = nxV g s'.ph) ∧ l = [QA g [nx', .int .i64 most, .int .i64 s'.n, .bool bg', .int .i64 la, .int .i64 s'.e] 265]) := by
 refine Qk (vs := [.pointer (some ⟨g, 0, none⟩), .int .u8 c]) Tryz.func202 rfl Tryz.ntmps202 rfl ?_
 refine Qb (Qa (Qe rfl rfl (WpL.nil (Qb (Wp.block ?_)))))
 refine Qb (Qa (Qc rfl rfl (Qh rfl rfl (by repeat' constructor) (Yh _ (by omega) (by omega)) ?_)))
 rintro _ _ ⟨rfl, rfl⟩
 simp only [Qr]
 refine Qe rfl rfl (WpL.nil (X5 rfl (fun h0 => ?_) (fun h0 => ?_)))
 ·refine Qb (Qa (Qe rfl rfl (WpL.nil (Qi ?_))))
  apply RetQ.mk
  ·exact (Res.one rfl rfl)
  ·exact ⟨⟨0, n, e⟩, 0, bg, .func (.func 202) #[.pointer (some ⟨g, 0, none⟩)] #[], by unfold QV; dsimp only; rw [if_neg (by decide), if_neg (by decide), if_neg (by decide), if_neg (by decide), if_neg (blank_35 h0), if_pos h0, if_pos rfl], rfl, (fun hz => by rfl), rfl⟩
  ·exact Ent.refl _
 ·refine Qb (Qa (Qc rfl rfl (QN rfl rfl rfl (Qe rfl rfl (WpL.nil (Ql rfl (fun h1 => ?_) (fun h1 => ?_)))))))
  ·refine Qb (Qa (Qc rfl rfl (Qc rfl rfl (ZV rfl rfl rfl (Qq rfl rfl (Qj (o2 := 0) rfl rfl rfl (Q3 rfl rfl rfl (WpL.nil (Qb (Qa (Qe rfl rfl (WpL.nil ?_))))))))))))
   refine Qi ?_
   apply RetQ.mk
   ·exact (Res.one rfl rfl)
   ·exact ⟨⟨1, n, e⟩, 0, bg, .func (.func 206) #[.pointer (some ⟨g, 0, none⟩)] #[], by unfold QV; dsimp only; rw [if_neg (by decide), if_neg (by decide), if_neg (by decide), if_neg (by decide), if_pos h1]; rfl, rfl, (fun hz => by rfl), rfl⟩
   ·exact Ent.refl _
  ·refine Wp.skip (Qb (Qa (Qc rfl rfl (Qc rfl rfl (Qh rfl rfl (by repeat' constructor) (digit_spec g most n e la bg _ c hc0 hc1 hn0 hm0 hm1) ?_)))))
   intro v0 m0 hN0
   rcases hN0 with ⟨hE, rfl, rfl⟩ | ⟨hE, rfl, rfl⟩
   ·simp only [Qr]
    refine Qe rfl rfl (WpL.nil (Qi ?_))
    apply RetQ.mk
    ·exact (Res.one rfl rfl)
    ·exact ⟨⟨5, 0, (Xo n c most).2⟩, 2, bg, .func (.func 202) #[.pointer (some ⟨g, 0, none⟩)] #[], by unfold QV; dsimp only; rw [if_neg (by decide), if_neg (by decide), if_neg (by decide), if_neg (by decide), if_neg h1, if_neg (by rw [h0]; decide), if_pos hE], rfl, (fun hz => by exact absurd hz (by decide)), rfl⟩
    ·exact Ent.refl _
   ·simp only [Qr]
    refine Qe rfl rfl (WpL.nil (Qi ?_))
    apply RetQ.mk
    ·exact (Res.one rfl rfl)
    ·exact ⟨⟨2, (Xo n c most).1, e⟩, 0, true, .func (.func 211) #[.pointer (some ⟨g, 0, none⟩)] #[], by unfold QV; dsimp only; rw [if_neg (by decide), if_neg (by decide), if_neg (by decide), if_neg (by decide), if_neg h1, if_neg (by rw [h0]; decide), if_neg (fun h => h hE)], rfl, (fun hz => by rfl), rfl⟩
    ·exact Ent.refl _

theorem tk_behind (g : Nat) (most n e : Int) (la : Int) (bg : Bool) (c : Int) (hc0 : 0 ≤ c) (hc1 : c ≤ 255) (hn0 : 0 ≤ n) (hm0 : 0 ≤ most) (hm1 : most ≤ 1000000) : Fn Tryz.prog 211 #[.pointer (some ⟨g, 0, none⟩), .int .u8 c] [QA g [.func (.func 211) #[.pointer (some ⟨g, 0, none⟩)] #[], .int .i64 most, .int .i64 n, .bool bg, .int .i64 la, .int .i64 e] 265] (fun v l => ∃ s' r bg' nx', ((s', r) : TS × Int) = QV most ⟨2, n, e⟩ c ∧ v = .int .i64 r ∧ (r = 0 → nx' = nxV g s'.ph) ∧ l = [QA g [nx', .int .i64 most, .int .i64 s'.n, .bool bg', .int .i64 la, .int .i64 s'.e] 265]) := by
 refine Qk (vs := [.pointer (some ⟨g, 0, none⟩), .int .u8 c]) Tryz.func211 rfl Tryz.ntmps211 rfl ?_
 refine Qb (Qa (Qe rfl rfl (WpL.nil (Qb (Wp.block ?_)))))
 refine Qb (Qa (Qc rfl rfl (Qh rfl rfl (by repeat' constructor) (Yh _ (by omega) (by omega)) ?_)))
 rintro _ _ ⟨rfl, rfl⟩
 simp only [Qr]
 refine Qe rfl rfl (WpL.nil (X5 rfl (fun h0 => ?_) (fun h0 => ?_)))
 ·refine Qb (Qa (Qc rfl rfl (Qq rfl rfl (Qj (o2 := 5) rfl rfl rfl (Q3 rfl rfl rfl (WpL.nil (Qb (Qa (Qe rfl rfl (WpL.nil (Qi ?_)))))))))))
  apply RetQ.mk
  ·exact (Res.one rfl rfl)
  ·exact ⟨⟨4, n, 0⟩, 1, bg, .func (.func 211) #[.pointer (some ⟨g, 0, none⟩)] #[], by unfold QV; dsimp only; rw [if_neg (by decide), if_neg (by decide), if_neg (by decide), if_neg (by decide), if_neg (blank_35 h0), if_pos h0, if_neg (by decide)], rfl, (fun hz => by exact absurd hz (by decide)), rfl⟩
  ·exact Ent.refl _
 ·refine Qb (Qa (Qc rfl rfl (QN rfl rfl rfl (Qe rfl rfl (WpL.nil (Ql rfl (fun h1 => ?_) (fun h1 => ?_)))))))
  ·refine Qb (Qa (Qc rfl rfl (Qc rfl rfl (ZV rfl rfl rfl (Qq rfl rfl (Qj (o2 := 0) rfl rfl rfl (Q3 rfl rfl rfl (WpL.nil (Qb (Qa (Qe rfl rfl (WpL.nil ?_))))))))))))
   refine Qi ?_
   apply RetQ.mk
   ·exact (Res.one rfl rfl)
   ·exact ⟨⟨3, n, e⟩, 0, bg, .func (.func 212) #[.pointer (some ⟨g, 0, none⟩)] #[], by unfold QV; dsimp only; rw [if_neg (by decide), if_neg (by decide), if_neg (by decide), if_neg (by decide), if_pos h1]; rfl, rfl, (fun hz => by rfl), rfl⟩
   ·exact Ent.refl _
  ·refine Wp.skip (Qb (Qa (Qc rfl rfl (Qc rfl rfl (Qh rfl rfl (by repeat' constructor) (digit_spec g most n e la bg _ c hc0 hc1 hn0 hm0 hm1) ?_)))))
   intro v0 m0 hN0
   rcases hN0 with ⟨hE, rfl, rfl⟩ | ⟨hE, rfl, rfl⟩
   ·simp only [Qr]
    refine Qe rfl rfl (WpL.nil (Qi ?_))
    apply RetQ.mk
    ·exact (Res.one rfl rfl)
    ·exact ⟨⟨5, 0, (Xo n c most).2⟩, 2, bg, .func (.func 211) #[.pointer (some ⟨g, 0, none⟩)] #[], by unfold QV; dsimp only; rw [if_neg (by decide), if_neg (by decide), if_neg (by decide), if_neg (by decide), if_neg h1, if_neg (by rw [h0]; decide), if_pos hE], rfl, (fun hz => by exact absurd hz (by decide)), rfl⟩
    ·exact Ent.refl _
   ·simp only [Qr]
    refine Qe rfl rfl (WpL.nil (Qi ?_))
    apply RetQ.mk
    ·exact (Res.one rfl rfl)
    ·exact ⟨⟨2, (Xo n c most).1, e⟩, 0, true, .func (.func 211) #[.pointer (some ⟨g, 0, none⟩)] #[], by unfold QV; dsimp only; rw [if_neg (by decide), if_neg (by decide), if_neg (by decide), if_neg (by decide), if_neg h1, if_neg (by rw [h0]; decide), if_neg (fun h => h hE)], rfl, (fun hz => by rfl), rfl⟩
    ·exact Ent.refl _

theorem tk_remark (g : Nat) (most n e : Int) (la : Int) (bg : Bool) (c : Int) : Fn Tryz.prog 206 #[.pointer (some ⟨g, 0, none⟩), .int .u8 c] [QA g [.func (.func 206) #[.pointer (some ⟨g, 0, none⟩)] #[], .int .i64 most, .int .i64 n, .bool bg, .int .i64 la, .int .i64 e] 265] (fun v l => ∃ s' r bg' nx', ((s', r) : TS × Int) = QV most ⟨1, n, e⟩ c ∧ v = .int .i64 r ∧ (r = 0 → nx' = nxV g s'.ph) ∧ l = [QA g [nx', .int .i64 most, .int .i64 s'.n, .bool bg', .int .i64 la, .int .i64 s'.e] 265]) := by
 refine Qk (vs := [.pointer (some ⟨g, 0, none⟩), .int .u8 c]) Tryz.func206 rfl Tryz.ntmps206 rfl ?_
 refine Qb (Qa (Qe rfl rfl (WpL.nil (Qb (Qb (Qa (Qc rfl rfl (Qh rfl rfl (by repeat' constructor) (ends2_spec _) ?_))))))))
 rintro _ _ ⟨rfl, rfl⟩
 simp only [Qr]
 refine WpL.nil (Ql rfl (fun h0 => ?_) (fun h0 => ?_))
 ·refine Qa (Qc rfl rfl (Qc rfl rfl (ZV rfl rfl rfl (Qq rfl rfl (Qj (o2 := 0) rfl rfl rfl (Q3 rfl rfl rfl (WpL.nil (Qb (Qa (Qe rfl rfl (WpL.nil (Qi ?_))))))))))))
  apply RetQ.mk
  ·exact (Res.one rfl rfl)
  ·exact ⟨⟨0, n, e⟩, 0, bg, .func (.func 202) #[.pointer (some ⟨g, 0, none⟩)] #[], by unfold QV; dsimp only; rw [if_neg (by decide), if_neg (by decide), if_pos rfl, if_pos h0], rfl, (fun hz => by rfl), rfl⟩
  ·exact Ent.refl _
 ·refine Wp.skip (Qb (Qa (Qe rfl rfl (WpL.nil (Qi ?_)))))
  apply RetQ.mk
  ·exact (Res.one rfl rfl)
  ·exact ⟨⟨1, n, e⟩, 0, bg, .func (.func 206) #[.pointer (some ⟨g, 0, none⟩)] #[], by unfold QV; dsimp only; rw [if_neg (by decide), if_neg (by decide), if_pos rfl, if_neg h0], rfl, (fun hz => by rfl), rfl⟩
  ·exact Ent.refl _

theorem tk_end (g : Nat) (most n e : Int) (la : Int) (bg : Bool) (c : Int) : Fn Tryz.prog 212 #[.pointer (some ⟨g, 0, none⟩), .int .u8 c] [QA g [.func (.func 212) #[.pointer (some ⟨g, 0, none⟩)] #[], .int .i64 most, .int .i64 n, .bool bg, .int .i64 la, .int .i64 e] 265] (fun v l => ∃ s' r bg' nx', ((s', r) : TS × Int) = QV most ⟨3, n, e⟩ c ∧ v = .int .i64 r ∧ (r = 0 → nx' = nxV g s'.ph) ∧ l = [QA g [nx', .int .i64 most, .int .i64 s'.n, .bool bg', .int .i64 la, .int .i64 s'.e] 265]) := by
 refine Qk (vs := [.pointer (some ⟨g, 0, none⟩), .int .u8 c]) Tryz.func212 rfl Tryz.ntmps212 rfl ?_
 refine Qb (Qa (Qe rfl rfl (WpL.nil (Qb (Qb (Qa (Qc rfl rfl (Qh rfl rfl (by repeat' constructor) (ends2_spec _) ?_))))))))
 rintro _ _ ⟨rfl, rfl⟩
 simp only [Qr]
 refine XN rfl rfl (WpL.nil (Ql rfl (fun h0 => ?_) (fun h0 => ?_)))
 ·refine Qb (Qa (Qe rfl rfl (WpL.nil (Qi ?_))))
  apply RetQ.mk
  ·exact (Res.one rfl rfl)
  ·exact ⟨⟨3, n, e⟩, 0, bg, .func (.func 212) #[.pointer (some ⟨g, 0, none⟩)] #[], by unfold QV; dsimp only; rw [if_neg (by decide), if_neg (by decide), if_neg (by decide), if_pos rfl, if_neg h0], rfl, (fun hz => by rfl), rfl⟩
  ·exact Ent.refl _
 ·refine Wp.skip (Qb (Qa (Qc rfl rfl (Qq rfl rfl (Qj (o2 := 5) rfl rfl rfl (Q3 rfl rfl rfl (WpL.nil (Qb (Qa (Qe rfl rfl (WpL.nil (Qi ?_))))))))))))
  apply RetQ.mk
  ·exact (Res.one rfl rfl)
  ·exact ⟨⟨4, n, 0⟩, 1, bg, .func (.func 212) #[.pointer (some ⟨g, 0, none⟩)] #[], by unfold QV; dsimp only; rw [if_neg (by decide), if_neg (by decide), if_neg (by decide), if_pos rfl, if_pos (Classical.not_not.1 h0)], rfl, (fun hz => by rfl), rfl⟩
  ·exact Ent.refl _

theorem tkPut_0 (g : Nat) (most n e : Int) (bg : Bool) (c : Int) (hc0 : 0 ≤ c) (hc1 : c ≤ 255) (hn0 : 0 ≤ n) (hm0 : 0 ≤ most) (hm1 : most ≤ 1000000) : Fn Tryz.prog 192 #[.pointer (some ⟨g, 0, none⟩), .int .u8 c] [QA g [.func (.func 202) #[.pointer (some ⟨g, 0, none⟩)] #[], .int .i64 most, .int .i64 n, .bool bg, .int .i64 0, .int .i64 e] 265] (fun v l => ∃ s' r bg' nx', ((s', r) : TS × Int) = QV most ⟨0, n, e⟩ c ∧ v = .int .i64 r ∧ (r = 0 → nx' = nxV g s'.ph) ∧ l = [QA g [nx', .int .i64 most, .int .i64 s'.n, .bool bg', .int .i64 r, .int .i64 s'.e] 265]) := by
 refine Qk (vs := [.pointer (some ⟨g, 0, none⟩), .int .u8 c]) Tryz.func192 rfl Tryz.ntmps192 rfl ?_
 refine Qb (Qa (Qe rfl rfl (WpL.nil (Qb (Qb (Qa (Qc rfl rfl (Qq rfl rfl (Qj (o2 := 4) rfl rfl rfl (Qo rfl rfl (by rfl) ?_))))))))))
 refine QN rfl rfl rfl (WpL.nil (QU rfl rfl (Qa (Qc rfl rfl (Qc rfl rfl (Qq rfl rfl (Qj (o2 := 0) rfl rfl rfl (Qo rfl rfl (by rfl) ?_))))))))
 refine Qc rfl rfl (X3 (u := [.pointer (some ⟨g, 0, none⟩)]) (c := []) rfl rfl rfl rfl (by repeat' constructor) (tk_ahead g most n e 0 bg c hc0 hc1 hn0 hm0 hm1) ?_)
 rintro _ _ ⟨s', r, bg', nx', hs, rfl, hnx, rfl⟩
 simp only [Qr]
 refine Qq rfl rfl (Qj (o2 := 4) rfl rfl rfl (Q3 rfl rfl rfl (WpL.nil (Qb (Qa (Qc rfl rfl (Qq rfl rfl (Qj (o2 := 4) rfl rfl rfl (Qo rfl rfl (by rfl) ?_)))))))))
 refine Qe rfl rfl (WpL.nil (Qi ?_))
 apply RetQ.mk
 ·exact (Res.one rfl rfl)
 ·exact ⟨s', r, bg', nx', hs, rfl, hnx, rfl⟩
 ·exact Ent.refl _

theorem tkPut_1 (g : Nat) (most n e : Int) (bg : Bool) (c : Int) : Fn Tryz.prog 192 #[.pointer (some ⟨g, 0, none⟩), .int .u8 c] [QA g [.func (.func 206) #[.pointer (some ⟨g, 0, none⟩)] #[], .int .i64 most, .int .i64 n, .bool bg, .int .i64 0, .int .i64 e] 265] (fun v l => ∃ s' r bg' nx', ((s', r) : TS × Int) = QV most ⟨1, n, e⟩ c ∧ v = .int .i64 r ∧ (r = 0 → nx' = nxV g s'.ph) ∧ l = [QA g [nx', .int .i64 most, .int .i64 s'.n, .bool bg', .int .i64 r, .int .i64 s'.e] 265]) := by
 refine Qk (vs := [.pointer (some ⟨g, 0, none⟩), .int .u8 c]) Tryz.func192 rfl Tryz.ntmps192 rfl ?_
 refine Qb (Qa (Qe rfl rfl (WpL.nil (Qb (Qb (Qa (Qc rfl rfl (Qq rfl rfl (Qj (o2 := 4) rfl rfl rfl (Qo rfl rfl (by rfl) ?_))))))))))
 refine QN rfl rfl rfl (WpL.nil (QU rfl rfl (Qa (Qc rfl rfl (Qc rfl rfl (Qq rfl rfl (Qj (o2 := 0) rfl rfl rfl (Qo rfl rfl (by rfl) ?_))))))))
 refine Qc rfl rfl (X3 (u := [.pointer (some ⟨g, 0, none⟩)]) (c := []) rfl rfl rfl rfl (by repeat' constructor) (tk_remark g most n e 0 bg c) ?_)
 rintro _ _ ⟨s', r, bg', nx', hs, rfl, hnx, rfl⟩
 simp only [Qr]
 refine Qq rfl rfl (Qj (o2 := 4) rfl rfl rfl (Q3 rfl rfl rfl (WpL.nil (Qb (Qa (Qc rfl rfl (Qq rfl rfl (Qj (o2 := 4) rfl rfl rfl (Qo rfl rfl (by rfl) ?_)))))))))
 refine Qe rfl rfl (WpL.nil (Qi ?_))
 apply RetQ.mk
 ·exact (Res.one rfl rfl)
 ·exact ⟨s', r, bg', nx', hs, rfl, hnx, rfl⟩
 ·exact Ent.refl _

theorem tkPut_2 (g : Nat) (most n e : Int) (bg : Bool) (c : Int) (hc0 : 0 ≤ c) (hc1 : c ≤ 255) (hn0 : 0 ≤ n) (hm0 : 0 ≤ most) (hm1 : most ≤ 1000000) : Fn Tryz.prog 192 #[.pointer (some ⟨g, 0, none⟩), .int .u8 c] [QA g [.func (.func 211) #[.pointer (some ⟨g, 0, none⟩)] #[], .int .i64 most, .int .i64 n, .bool bg, .int .i64 0, .int .i64 e] 265] (fun v l => ∃ s' r bg' nx', ((s', r) : TS × Int) = QV most ⟨2, n, e⟩ c ∧ v = .int .i64 r ∧ (r = 0 → nx' = nxV g s'.ph) ∧ l = [QA g [nx', .int .i64 most, .int .i64 s'.n, .bool bg', .int .i64 r, .int .i64 s'.e] 265]) := by
 refine Qk (vs := [.pointer (some ⟨g, 0, none⟩), .int .u8 c]) Tryz.func192 rfl Tryz.ntmps192 rfl ?_
 refine Qb (Qa (Qe rfl rfl (WpL.nil (Qb (Qb (Qa (Qc rfl rfl (Qq rfl rfl (Qj (o2 := 4) rfl rfl rfl (Qo rfl rfl (by rfl) ?_))))))))))
 refine QN rfl rfl rfl (WpL.nil (QU rfl rfl (Qa (Qc rfl rfl (Qc rfl rfl (Qq rfl rfl (Qj (o2 := 0) rfl rfl rfl (Qo rfl rfl (by rfl) ?_))))))))
 refine Qc rfl rfl (X3 (u := [.pointer (some ⟨g, 0, none⟩)]) (c := []) rfl rfl rfl rfl (by repeat' constructor) (tk_behind g most n e 0 bg c hc0 hc1 hn0 hm0 hm1) ?_)
 rintro _ _ ⟨s', r, bg', nx', hs, rfl, hnx, rfl⟩
 simp only [Qr]
 refine Qq rfl rfl (Qj (o2 := 4) rfl rfl rfl (Q3 rfl rfl rfl (WpL.nil (Qb (Qa (Qc rfl rfl (Qq rfl rfl (Qj (o2 := 4) rfl rfl rfl (Qo rfl rfl (by rfl) ?_)))))))))
 refine Qe rfl rfl (WpL.nil (Qi ?_))
 apply RetQ.mk
 ·exact (Res.one rfl rfl)
 ·exact ⟨s', r, bg', nx', hs, rfl, hnx, rfl⟩
 ·exact Ent.refl _

theorem tkPut_3 (g : Nat) (most n e : Int) (bg : Bool) (c : Int) : Fn Tryz.prog 192 #[.pointer (some ⟨g, 0, none⟩), .int .u8 c] [QA g [.func (.func 212) #[.pointer (some ⟨g, 0, none⟩)] #[], .int .i64 most, .int .i64 n, .bool bg, .int .i64 0, .int .i64 e] 265] (fun v l => ∃ s' r bg' nx', ((s', r) : TS × Int) = QV most ⟨3, n, e⟩ c ∧ v = .int .i64 r ∧ (r = 0 → nx' = nxV g s'.ph) ∧ l = [QA g [nx', .int .i64 most, .int .i64 s'.n, .bool bg', .int .i64 r, .int .i64 s'.e] 265]) := by
 refine Qk (vs := [.pointer (some ⟨g, 0, none⟩), .int .u8 c]) Tryz.func192 rfl Tryz.ntmps192 rfl ?_
 refine Qb (Qa (Qe rfl rfl (WpL.nil (Qb (Qb (Qa (Qc rfl rfl (Qq rfl rfl (Qj (o2 := 4) rfl rfl rfl (Qo rfl rfl (by rfl) ?_))))))))))
 refine QN rfl rfl rfl (WpL.nil (QU rfl rfl (Qa (Qc rfl rfl (Qc rfl rfl (Qq rfl rfl (Qj (o2 := 0) rfl rfl rfl (Qo rfl rfl (by rfl) ?_))))))))
 refine Qc rfl rfl (X3 (u := [.pointer (some ⟨g, 0, none⟩)]) (c := []) rfl rfl rfl rfl (by repeat' constructor) (tk_end g most n e 0 bg c) ?_)
 rintro _ _ ⟨s', r, bg', nx', hs, rfl, hnx, rfl⟩
 simp only [Qr]
 refine Qq rfl rfl (Qj (o2 := 4) rfl rfl rfl (Q3 rfl rfl rfl (WpL.nil (Qb (Qa (Qc rfl rfl (Qq rfl rfl (Qj (o2 := 4) rfl rfl rfl (Qo rfl rfl (by rfl) ?_)))))))))
 refine Qe rfl rfl (WpL.nil (Qi ?_))
 apply RetQ.mk
 ·exact (Res.one rfl rfl)
 ·exact ⟨s', r, bg', nx', hs, rfl, hnx, rfl⟩
 ·exact Ent.refl _


theorem tkPut_spec (g : Nat) (most : Int) (s : TS) (bg : Bool) (nx : Value) (c : Int) (hok : Zx most s) (hnx : nx = nxV g s.ph) (hc0 : 0 ≤ c) (hc1 : c ≤ 255) (hm1 : most ≤ 1000000) :
    Fn Tryz.prog 192 #[.pointer (some ⟨g, 0, none⟩), .int .u8 c] [QA g [nx, .int .i64 most, .int .i64 s.n, .bool bg, .int .i64 0, .int .i64 s.e] 265] (fun v l => ∃ s' r bg' nx', ((s', r) : TS × Int) = QV most s c ∧ v = .int .i64 r ∧ (r = 0 → nx' = nxV g s'.ph) ∧ l = [QA g [nx', .int .i64 most, .int .i64 s'.n, .bool bg', .int .i64 r, .int .i64 s'.e] 265]) := by
  obtain ⟨ph, n, e⟩ := s
  obtain ⟨h1, h2, h3, h4, h5⟩ := hok
  dsimp only at *
  subst hnx
  obtain rfl | rfl | rfl | rfl : ph = 0 ∨ ph = 1 ∨ ph = 2 ∨ ph = 3 := by omega
  · exact tkPut_0 g most n e bg c hc0 hc1 h3 (by omega) hm1
  · exact tkPut_1 g most n e bg c
  · exact tkPut_2 g most n e bg c hc0 hc1 h3 (by omega) hm1
  · exact tkPut_3 g most n e bg c

theorem X2 (g : Nat) (most n e la : Int) (bg : Bool) (nx : Value) : Fn Tryz.prog 193 #[.pointer (some ⟨g, 0, none⟩)] [QA g [nx, .int .i64 most, .int .i64 n, .bool bg, .int .i64 la, .int .i64 e] 265] (fun v l => v = .tuple #[.int .i64 (if la = 1 then n else 0), .int .i64 (if la = 1 then 0 else e)] ∧ l = [QA g [nx, .int .i64 most, .int .i64 n, .bool bg, .int .i64 la, .int .i64 e] 265]) := by
 refine Qk (vs := [.pointer (some ⟨g, 0, none⟩)]) Tryz.func193 rfl Tryz.ntmps193 rfl ?_
 refine Qb (Qa (Qe rfl rfl (Qe rfl rfl (WpL.nil (Qb (Qb (Qa (Qc rfl rfl (Qq rfl rfl (Qj (o2 := 4) rfl rfl rfl (Qo rfl rfl (by rfl) ?_)))))))))))
 refine Xn rfl rfl rfl (WpL.nil (Ql rfl (fun h0 => ?_) (fun h0 => ?_)))
 ·refine Qb ?_
  apply Q0 mixed [⟨9, _, []⟩, ⟨10, _, [0]⟩, ⟨11, _, [1]⟩, ⟨12, _, [2]⟩, ⟨2, _, []⟩, ⟨3, _, [3, 4, 0, 1, 2]⟩] rfl
  ·refine AllObs.mk ?_ ?_
   ·exact Qc rfl rfl (Qm rfl)
   refine AllObs.mk ?_ ?_
   ·exact Qq rfl rfl (Qm rfl)
   refine AllObs.mk ?_ ?_
   ·exact Qj (o2 := 5) rfl rfl rfl (Qm rfl)
   refine AllObs.mk ?_ ?_
   ·refine Qo rfl rfl (by rfl) ?_
    exact Qm rfl
   refine AllObs.mk ?_ ?_
   ·exact Qe rfl rfl (Qm rfl)
   refine AllObs.mk ?_ ?_
   ·exact Qe rfl rfl (Qm rfl)
   exact AllObs.nil
  ·refine Qi ?_
   apply RetQ.mk
   ·exact (QB rfl rfl rfl)
   ·exact ⟨by rw [if_neg h0, if_neg h0], rfl⟩
   ·exact Ent.refl _
 ·refine Wp.skip (Qb (Qa (Qc rfl rfl (Qq rfl rfl (Qj (o2 := 2) rfl rfl rfl (Qo rfl rfl (by rfl) ?_))))))
  refine Qe rfl rfl (Qe rfl rfl (WpL.nil (Qi ?_)))
  apply RetQ.mk
  ·exact (QB rfl rfl rfl)
  ·exact ⟨by rw [if_pos (Classical.not_not.1 h0), if_pos (Classical.not_not.1 h0)], rfl⟩
  ·exact Ent.refl _

theorem Vk (most : Int) : Fn Tryz.prog 191 #[.int .i64 most] [] (fun v l => ∃ g, v = .pointer (some ⟨g, 0, none⟩) ∧ l = [QA g [nxV g 0, .int .i64 most, .int .i64 0, .bool false, .int .i64 0, .int .i64 9] 265]) := by
 refine Qk (vs := [.int .i64 most]) Tryz.func191 rfl Tryz.ntmps191 rfl (Qb (Qa (Qe rfl rfl (WpL.nil (Qb (Qa (Qc rfl rfl ?_)))))))
 refine YI rfl rfl ?_
 refine Q9 rfl rfl rfl ?_
 intro g1
 refine Qe rfl rfl (WpL.nil (Qb (Qa (Qc rfl rfl (Qc rfl rfl (ZV rfl rfl rfl (Qq rfl rfl (Qj (o2 := 0) rfl rfl rfl (Q3 rfl rfl rfl (WpL.nil (Qb (Qa ?_))))))))))))
 refine Qc rfl rfl (Qe rfl rfl (WpL.nil (Qi ?_)))
 apply RetQ.mk
 ·exact (Res.one rfl rfl)
 ·exact ⟨_, rfl, rfl⟩
 ·exact Ent.refl _

end Go.Proofs.YtggamdlpiejbiaaGreat
namespace Go.Proofs.YtggamdlpiejbiaaGreat
open Go.RowKit Go.Shelf

theorem Xw (g : Nat) (K W H M l0 l1 l2 at_ i la e x : Int) (pt : Value) : Fn Tryz.prog 190 #[.pointer (some ⟨g, 0, none⟩), .int .i64 x] [QA g [.int .i64 K, .int .i64 W, .int .i64 H, .int .i64 M, .int .i64 l0, .int .i64 l1, .int .i64 l2, .int .i64 at_, .int .i64 i, pt, .int .i64 la, .int .i64 e] 234] (fun v l => v = .int .i64 2 ∧ l = [QA g [.int .i64 K, .int .i64 W, .int .i64 H, .int .i64 M, .int .i64 l0, .int .i64 l1, .int .i64 l2, .int .i64 at_, .int .i64 i, pt, .int .i64 la, .int .i64 x] 234]) := by
 refine Qk (vs := [.pointer (some ⟨g, 0, none⟩), .int .i64 x]) Tryz.func190 rfl Tryz.ntmps190 rfl ?_
 refine Qb (Qa (Qe rfl rfl (WpL.nil (Qb (Qa (Qc rfl rfl (Qc rfl rfl (Qq rfl rfl (Qj (o2 := 11) rfl rfl rfl (Q3 rfl rfl rfl (WpL.nil (Qb ?_))))))))))))
 refine Qa (Qe rfl rfl (WpL.nil (Qi ?_)))
 apply RetQ.mk
 ·exact (Res.one rfl rfl)
 ·exact ⟨rfl, rfl⟩
 ·exact Ent.refl _

theorem hdMagic_0a (g : Nat) (K W H M l0 l1 l2 i la e : Int) (pt : Value) (c : Int) (hc : c ≠ 80) : Fn Tryz.prog 165 #[.pointer (some ⟨g, 0, none⟩), .int .u8 c] [QA g [.int .i64 K, .int .i64 W, .int .i64 H, .int .i64 M, .int .i64 l0, .int .i64 l1, .int .i64 l2, .int .i64 0, .int .i64 i, pt, .int .i64 la, .int .i64 e] 234] (fun v l => v = .int .i64 2 ∧ l = [QA g [.int .i64 K, .int .i64 W, .int .i64 H, .int .i64 M, .int .i64 l0, .int .i64 l1, .int .i64 l2, .int .i64 1, .int .i64 i, pt, .int .i64 la, .int .i64 2] 234]) := by
 refine Qk (vs := [.pointer (some ⟨g, 0, none⟩), .int .u8 c]) Tryz.func165 rfl Tryz.ntmps165 rfl ?_
 refine Qb (Qa (Qe rfl rfl (WpL.nil (Qb (Qa (Qc rfl rfl (Qq rfl rfl (Qj (o2 := 7) rfl rfl rfl (Qo rfl rfl (by rfl) ?_)))))))))
 refine QD rfl rfl rfl (Qu (by omega) (by omega)) ?_
 rw [show (0 : Int) + 1 = 1 from rfl]
 refine Qq rfl rfl (Qj (o2 := 7) rfl rfl rfl (Q3 rfl rfl rfl (WpL.nil (Qb (Wp.block ?_)))))
 refine Qb (Qb (Qa (Qc rfl rfl (Qq rfl rfl (Qj (o2 := 7) rfl rfl rfl (Qo rfl rfl (by rfl) ?_))))))
 refine QN rfl rfl rfl (Qc rfl rfl (Qx (dj := 18) rfl rfl ?_))
 refine Qf rfl rfl (Qc rfl rfl (Qf rfl rfl (Xn rfl rfl rfl (Qt rfl rfl rfl (Qe rfl rfl (WpL.nil (QU rfl hc (Wp.skip (QU rfl hc (Qb (Qa (Qc rfl rfl ?_))))))))))))
 refine Qh rfl rfl (by repeat' constructor) (Xw _ _ _ _ _ _ _ _ _ _ _ _ _ _) ?_
 rintro _ _ ⟨rfl, rfl⟩
 simp only [Qr]
 refine Qe rfl rfl (WpL.nil (Qi ?_))
 apply RetQ.mk
 ·exact (Res.one rfl rfl)
 ·exact ⟨rfl, rfl⟩
 ·exact Ent.refl _

theorem hdMagic_0b (g : Nat) (K W H M l0 l1 l2 i la e : Int) (pt : Value) (c : Int) (hc : c = 80) : Fn Tryz.prog 165 #[.pointer (some ⟨g, 0, none⟩), .int .u8 c] [QA g [.int .i64 K, .int .i64 W, .int .i64 H, .int .i64 M, .int .i64 l0, .int .i64 l1, .int .i64 l2, .int .i64 0, .int .i64 i, pt, .int .i64 la, .int .i64 e] 234] (fun v l => v = .int .i64 0 ∧ l = [QA g [.int .i64 K, .int .i64 W, .int .i64 H, .int .i64 M, .int .i64 l0, .int .i64 l1, .int .i64 l2, .int .i64 1, .int .i64 i, pt, .int .i64 la, .int .i64 e] 234]) := by
 refine Qk (vs := [.pointer (some ⟨g, 0, none⟩), .int .u8 c]) Tryz.func165 rfl Tryz.ntmps165 rfl ?_
 refine Qb (Qa (Qe rfl rfl (WpL.nil (Qb (Qa (Qc rfl rfl (Qq rfl rfl (Qj (o2 := 7) rfl rfl rfl (Qo rfl rfl (by rfl) ?_)))))))))
 refine QD rfl rfl rfl (Qu (by omega) (by omega)) ?_
 rw [show (0 : Int) + 1 = 1 from rfl]
 refine Qq rfl rfl (Qj (o2 := 7) rfl rfl rfl (Q3 rfl rfl rfl (WpL.nil (Qb (Wp.block ?_)))))
 refine Qb (Qb (Qa (Qc rfl rfl (Qq rfl rfl (Qj (o2 := 7) rfl rfl rfl (Qo rfl rfl (by rfl) ?_))))))
 refine QN rfl rfl rfl (Qc rfl rfl (Qx (dj := 18) rfl rfl ?_))
 refine Qf rfl rfl (Qc rfl rfl (Qf rfl rfl (Xn rfl rfl rfl (Qt rfl rfl rfl (Qe rfl rfl (WpL.nil (Qz rfl (fun h => h hc) ?_)))))))
 refine Qa (Qc rfl rfl (Qq rfl rfl (Qj (o2 := 7) rfl rfl rfl (Qo rfl rfl (by rfl) ?_))))
 refine QN rfl rfl rfl (Qc rfl rfl (Qy (dj := 27) rfl (by decide) ?_))
 refine Qd rfl rfl rfl (by decide) (Qd rfl rfl rfl (by decide) (Qd rfl rfl rfl (by decide) (Xb rfl rfl rfl (Xb rfl rfl rfl (Qd rfl rfl rfl (by decide) (Qs rfl rfl rfl (Qe rfl rfl (WpL.nil (QZ rfl (Qb (Qa (Qc rfl rfl ?_))))))))))))
 refine Qq rfl rfl (Qj (o2 := 7) rfl rfl rfl (Qo rfl rfl (by rfl) ?_))
 refine QN rfl rfl rfl (Qe rfl rfl (WpL.nil (Qz rfl (by decide) (Qb (Qa (Qc rfl rfl (Qq rfl rfl (Qj (o2 := 7) rfl rfl rfl (Qo rfl rfl (by rfl) ?_)))))))))
 refine QN rfl rfl rfl (Qe rfl rfl (WpL.nil (Qz rfl (by decide) (Wp.skip (Qb (Qa (Qe rfl rfl (WpL.nil (Qi ?_)))))))))
 apply RetQ.mk
 ·exact (Res.one rfl rfl)
 ·exact ⟨rfl, rfl⟩
 ·exact Ent.refl _

theorem hdMagic_1a (g : Nat) (K W H M l0 l1 l2 i la e : Int) (pt : Value) (c : Int) (hc : c < 49) : Fn Tryz.prog 165 #[.pointer (some ⟨g, 0, none⟩), .int .u8 c] [QA g [.int .i64 K, .int .i64 W, .int .i64 H, .int .i64 M, .int .i64 l0, .int .i64 l1, .int .i64 l2, .int .i64 1, .int .i64 i, pt, .int .i64 la, .int .i64 e] 234] (fun v l => v = .int .i64 2 ∧ l = [QA g [.int .i64 K, .int .i64 W, .int .i64 H, .int .i64 M, .int .i64 l0, .int .i64 l1, .int .i64 l2, .int .i64 2, .int .i64 i, pt, .int .i64 la, .int .i64 2] 234]) := by
 refine Qk (vs := [.pointer (some ⟨g, 0, none⟩), .int .u8 c]) Tryz.func165 rfl Tryz.ntmps165 rfl ?_
 refine Qb (Qa (Qe rfl rfl (WpL.nil (Qb (Qa (Qc rfl rfl (Qq rfl rfl (Qj (o2 := 7) rfl rfl rfl (Qo rfl rfl (by rfl) ?_)))))))))
 refine QD rfl rfl rfl (Qu (by omega) (by omega)) ?_
 rw [show (1 : Int) + 1 = 2 from rfl]
 refine Qq rfl rfl (Qj (o2 := 7) rfl rfl rfl (Q3 rfl rfl rfl (WpL.nil (Qb (Wp.block ?_)))))
 refine Qb (Qb (Qa (Qc rfl rfl (Qq rfl rfl (Qj (o2 := 7) rfl rfl rfl (Qo rfl rfl (by rfl) ?_))))))
 refine QN rfl rfl rfl (Qc rfl rfl (Qy (dj := 18) rfl (by decide) ?_))
 refine Qd rfl rfl rfl (by decide) (Qd rfl rfl rfl (by decide) (Qs rfl rfl rfl (Qe rfl rfl (WpL.nil (QZ rfl (Qa (Qc rfl rfl (Qq rfl rfl (Qj (o2 := 7) rfl rfl rfl (Qo rfl rfl (by rfl) ?_))))))))))
 refine QN rfl rfl rfl (Qc rfl rfl (Qx (dj := 27) rfl rfl ?_))
 refine Qf rfl rfl (Qc rfl rfl (Qf rfl rfl (Q7 rfl rfl rfl (Qf rfl rfl (Qc rfl rfl (Qx (dj := 30) rfl (decide_eq_true hc) ?_))))))
 refine Qd rfl rfl rfl (by decide) (Qd rfl rfl rfl (by decide) (Qf rfl rfl (Qt rfl rfl rfl (Qt rfl rfl rfl (Qe rfl rfl (WpL.nil (Xc rfl (Qb (Qa (Qc rfl rfl (Qh rfl rfl (by repeat' constructor) (Xw _ _ _ _ _ _ _ _ _ _ _ _ _ _) ?_)))))))))))
 rintro _ _ ⟨rfl, rfl⟩
 simp only [Qr]
 refine Qe rfl rfl (WpL.nil (Qi ?_))
 apply RetQ.mk
 ·exact (Res.one rfl rfl)
 ·exact ⟨rfl, rfl⟩
 ·exact Ent.refl _

theorem hdMagic_1b (g : Nat) (K W H M l0 l1 l2 i la e : Int) (pt : Value) (c : Int) (hc : 54 < c) : Fn Tryz.prog 165 #[.pointer (some ⟨g, 0, none⟩), .int .u8 c] [QA g [.int .i64 K, .int .i64 W, .int .i64 H, .int .i64 M, .int .i64 l0, .int .i64 l1, .int .i64 l2, .int .i64 1, .int .i64 i, pt, .int .i64 la, .int .i64 e] 234] (fun v l => v = .int .i64 2 ∧ l = [QA g [.int .i64 K, .int .i64 W, .int .i64 H, .int .i64 M, .int .i64 l0, .int .i64 l1, .int .i64 l2, .int .i64 2, .int .i64 i, pt, .int .i64 la, .int .i64 2] 234]) := by
 refine Qk (vs := [.pointer (some ⟨g, 0, none⟩), .int .u8 c]) Tryz.func165 rfl Tryz.ntmps165 rfl ?_
 refine Qb (Qa (Qe rfl rfl (WpL.nil (Qb (Qa (Qc rfl rfl (Qq rfl rfl (Qj (o2 := 7) rfl rfl rfl (Qo rfl rfl (by rfl) ?_)))))))))
 refine QD rfl rfl rfl (Qu (by omega) (by omega)) ?_
 rw [show (1 : Int) + 1 = 2 from rfl]
 refine Qq rfl rfl (Qj (o2 := 7) rfl rfl rfl (Q3 rfl rfl rfl (WpL.nil (Qb (Wp.block ?_)))))
 refine Qb (Qb (Qa (Qc rfl rfl (Qq rfl rfl (Qj (o2 := 7) rfl rfl rfl (Qo rfl rfl (by rfl) ?_))))))
 refine QN rfl rfl rfl (Qc rfl rfl (Qy (dj := 18) rfl (by decide) ?_))
 refine Qd rfl rfl rfl (by decide) (Qd rfl rfl rfl (by decide) (Qs rfl rfl rfl (Qe rfl rfl (WpL.nil (QZ rfl (Qa (Qc rfl rfl (Qq rfl rfl (Qj (o2 := 7) rfl rfl rfl (Qo rfl rfl (by rfl) ?_))))))))))
 refine QN rfl rfl rfl (Qc rfl rfl (Qx (dj := 27) rfl rfl ?_))
 refine Qf rfl rfl (Qc rfl rfl (Qf rfl rfl (Q7 rfl rfl rfl (Qf rfl rfl (Qc rfl rfl (Qy (dj := 30) rfl (decide_eq_false (by omega)) ?_))))))
 refine Qf rfl rfl (Qc rfl rfl (Qf rfl rfl (Zm rfl rfl rfl (Qf rfl rfl (Qs rfl rfl rfl (Qt rfl rfl rfl (Qe rfl rfl (WpL.nil (QU rfl hc (Qb (Qa (Qc rfl rfl ?_))))))))))))
 refine Qh rfl rfl (by repeat' constructor) (Xw _ _ _ _ _ _ _ _ _ _ _ _ _ _) ?_
 rintro _ _ ⟨rfl, rfl⟩
 simp only [Qr]
 refine Qe rfl rfl (WpL.nil (Qi ?_))
 apply RetQ.mk
 ·exact (Res.one rfl rfl)
 ·exact ⟨rfl, rfl⟩
 ·exact Ent.refl _

theorem hdMagic_1c (g : Nat) (K W H M l0 l1 l2 i la e : Int) (pt : Value) (c : Int) (hc : 49 ≤ c ∧ c ≤ 54) : Fn Tryz.prog 165 #[.pointer (some ⟨g, 0, none⟩), .int .u8 c] [QA g [.int .i64 K, .int .i64 W, .int .i64 H, .int .i64 M, .int .i64 l0, .int .i64 l1, .int .i64 l2, .int .i64 1, .int .i64 i, pt, .int .i64 la, .int .i64 e] 234] (fun v l => v = .int .i64 0 ∧ l = [QA g [.int .i64 (c - 48), .int .i64 W, .int .i64 H, .int .i64 M, .int .i64 l0, .int .i64 l1, .int .i64 l2, .int .i64 2, .int .i64 i, pt, .int .i64 la, .int .i64 e] 234]) := by
 refine Qk (vs := [.pointer (some ⟨g, 0, none⟩), .int .u8 c]) Tryz.func165 rfl Tryz.ntmps165 rfl ?_
 refine Qb (Qa (Qe rfl rfl (WpL.nil (Qb (Qa (Qc rfl rfl (Qq rfl rfl (Qj (o2 := 7) rfl rfl rfl (Qo rfl rfl (by rfl) ?_)))))))))
 refine QD rfl rfl rfl (Qu (by omega) (by omega)) ?_
 rw [show (1 : Int) + 1 = 2 from rfl]
 refine Qq rfl rfl (Qj (o2 := 7) rfl rfl rfl (Q3 rfl rfl rfl (WpL.nil (Qb (Wp.block ?_)))))
 refine Qb (Qb (Qa (Qc rfl rfl (Qq rfl rfl (Qj (o2 := 7) rfl rfl rfl (Qo rfl rfl (by rfl) ?_))))))
 refine QN rfl rfl rfl (Qc rfl rfl (Qy (dj := 18) rfl (by decide) ?_))
 refine Qd rfl rfl rfl (by decide) (Qd rfl rfl rfl (by decide) (Qs rfl rfl rfl (Qe rfl rfl (WpL.nil (QZ rfl (Qa (Qc rfl rfl (Qq rfl rfl (Qj (o2 := 7) rfl rfl rfl (Qo rfl rfl (by rfl) ?_))))))))))
 refine QN rfl rfl rfl (Qc rfl rfl (Qx (dj := 27) rfl rfl ?_))
 refine Qf rfl rfl (Qc rfl rfl (Qf rfl rfl (Q7 rfl rfl rfl (Qf rfl rfl (Qc rfl rfl (Qy (dj := 30) rfl (decide_eq_false (by omega)) ?_))))))
 refine Qf rfl rfl (Qc rfl rfl (Qf rfl rfl (Zm rfl rfl rfl (Qf rfl rfl (Qs rfl rfl rfl (Qt rfl rfl rfl (Qe rfl rfl (WpL.nil (Qz rfl (by omega) ?_)))))))))
 refine Qb (Qa (Qc rfl rfl (Qq rfl rfl (Qj (o2 := 7) rfl rfl rfl (Qo rfl rfl (by rfl) ?_)))))
 refine QN rfl rfl rfl (Qe rfl rfl (WpL.nil (QU rfl rfl (Qa (Qc rfl rfl (Qc rfl rfl (ZQ rfl rfl rfl (w_u8 (by omega) (by omega)) ?_)))))))
 refine Yg rfl Tryz.underlying5 rfl (Qu (by omega) (by omega)) ?_
 refine Qq rfl rfl (Qj (o2 := 0) rfl rfl rfl (Qj (o2 := 0) rfl rfl rfl (Q3 rfl rfl rfl (WpL.nil (Qb (Qa (Qe rfl rfl (WpL.nil (Qi ?_)))))))))
 apply RetQ.mk
 ·exact (Res.one rfl rfl)
 ·exact ⟨rfl, rfl⟩
 ·exact Ent.refl _

theorem hdMagic_2a (g : Nat) (K W H M l0 l1 l2 i la e : Int) (pt : Value) (c : Int) (hc0 : 0 ≤ c) (hc1 : c ≤ 255) (hc : Q6 c = false) (hc2 : c ≠ 35) : Fn Tryz.prog 165 #[.pointer (some ⟨g, 0, none⟩), .int .u8 c] [QA g [.int .i64 K, .int .i64 W, .int .i64 H, .int .i64 M, .int .i64 l0, .int .i64 l1, .int .i64 l2, .int .i64 2, .int .i64 i, pt, .int .i64 la, .int .i64 e] 234] (fun v l => v = .int .i64 2 ∧ l = [QA g [.int .i64 K, .int .i64 W, .int .i64 H, .int .i64 M, .int .i64 l0, .int .i64 l1, .int .i64 l2, .int .i64 3, .int .i64 i, pt, .int .i64 la, .int .i64 3] 234]) := by
 refine Qk (vs := [.pointer (some ⟨g, 0, none⟩), .int .u8 c]) Tryz.func165 rfl Tryz.ntmps165 rfl ?_
 refine Qb (Qa (Qe rfl rfl (WpL.nil (Qb (Qa (Qc rfl rfl (Qq rfl rfl (Qj (o2 := 7) rfl rfl rfl (Qo rfl rfl (by rfl) ?_)))))))))
 refine QD rfl rfl rfl (Qu (by omega) (by omega)) ?_
 rw [show (2 : Int) + 1 = 3 from rfl]
 refine Qq rfl rfl (Qj (o2 := 7) rfl rfl rfl (Q3 rfl rfl rfl (WpL.nil (Qb (Wp.block ?_)))))
 refine Qb (Qb (Qa (Qc rfl rfl (Qq rfl rfl (Qj (o2 := 7) rfl rfl rfl (Qo rfl rfl (by rfl) ?_))))))
 refine QN rfl rfl rfl (Qc rfl rfl (Qy (dj := 18) rfl (by decide) ?_))
 refine Qd rfl rfl rfl (by decide) (Qd rfl rfl rfl (by decide) (Qs rfl rfl rfl (Qe rfl rfl (WpL.nil (QZ rfl (Qa (Qc rfl rfl (Qq rfl rfl (Qj (o2 := 7) rfl rfl rfl (Qo rfl rfl (by rfl) ?_))))))))))
 refine QN rfl rfl rfl (Qc rfl rfl (Qy (dj := 27) rfl (by decide) ?_))
 refine Qd rfl rfl rfl (by decide) (Qd rfl rfl rfl (by decide) (Qd rfl rfl rfl (by decide) (Xb rfl rfl rfl (Xb rfl rfl rfl (Qd rfl rfl rfl (by decide) (Qs rfl rfl rfl (Qe rfl rfl (WpL.nil (QZ rfl (Qb (Qa (Qc rfl rfl ?_))))))))))))
 refine Qq rfl rfl (Qj (o2 := 7) rfl rfl rfl (Qo rfl rfl (by rfl) ?_))
 refine QN rfl rfl rfl (Qe rfl rfl (WpL.nil (Qz rfl (by decide) (Qb (Qa (Qc rfl rfl (Qq rfl rfl (Qj (o2 := 7) rfl rfl rfl (Qo rfl rfl (by rfl) ?_)))))))))
 refine QN rfl rfl rfl (Qe rfl rfl (WpL.nil (QU rfl rfl (Qb (Qb (Qa (Qc rfl rfl (Qh rfl rfl (by repeat' constructor) (Yh _ (by omega) (by omega)) ?_))))))))
 rintro _ _ ⟨rfl, rfl⟩
 simp only [Qr]
 refine Zq rfl rfl (Qc rfl rfl (Qx (dj := 59) rfl (by rw [hc]; rfl) ?_))
 refine Qf rfl rfl (Qc rfl rfl (Qf rfl rfl (Xn rfl rfl rfl (Qt rfl rfl rfl (WpL.nil (QU rfl hc2 (Qb (Qa (Qc rfl rfl (Qh rfl rfl (by repeat' constructor) (Xw _ _ _ _ _ _ _ _ _ _ _ _ _ _) ?_))))))))))
 rintro _ _ ⟨rfl, rfl⟩
 simp only [Qr]
 refine Qe rfl rfl (WpL.nil (Qi ?_))
 apply RetQ.mk
 ·exact (Res.one rfl rfl)
 ·exact ⟨rfl, rfl⟩
 ·exact Ent.refl _

theorem hdMagic_2b (g : Nat) (K W H M l0 l1 l2 i la e : Int) (pt : Value) (c : Int) (hc0 : 0 ≤ c) (hc1 : c ≤ 255) (hl : (1 ≤ l0 ∧ l0 ≤ 4096) ∧ (1 ≤ l1 ∧ l1 ≤ 65536) ∧ (1 ≤ l2 ∧ l2 ≤ 65535)) (hc : Q6 c = true) : Fn Tryz.prog 165 #[.pointer (some ⟨g, 0, none⟩), .int .u8 c] [QA g [.int .i64 K, .int .i64 W, .int .i64 H, .int .i64 M, .int .i64 l0, .int .i64 l1, .int .i64 l2, .int .i64 2, .int .i64 i, pt, .int .i64 la, .int .i64 e] 234] (fun v l => ∃ gt s' r bg' nx', ((s', r) : TS × Int) = QV l0 tk0 c ∧ v = .int .i64 0 ∧ (r = 0 → nx' = nxV gt s'.ph) ∧ l = [QA g [.int .i64 K, .int .i64 W, .int .i64 H, .int .i64 M, .int .i64 l0, .int .i64 l1, .int .i64 l2, .int .i64 3, .int .i64 i, .pointer (some ⟨gt, 0, none⟩), .int .i64 la, .int .i64 e] 234, QA gt [nx', .int .i64 l0, .int .i64 s'.n, .bool bg', .int .i64 r, .int .i64 s'.e] 265]) := by
 refine Qk (vs := [.pointer (some ⟨g, 0, none⟩), .int .u8 c]) Tryz.func165 rfl Tryz.ntmps165 rfl ?_
 refine Qb (Qa (Qe rfl rfl (WpL.nil (Qb (Qa (Qc rfl rfl (Qq rfl rfl (Qj (o2 := 7) rfl rfl rfl (Qo rfl rfl (by rfl) ?_)))))))))
 refine QD rfl rfl rfl (Qu (by omega) (by omega)) ?_
 rw [show (2 : Int) + 1 = 3 from rfl]
 refine Qq rfl rfl (Qj (o2 := 7) rfl rfl rfl (Q3 rfl rfl rfl (WpL.nil (Qb (Wp.block ?_)))))
 refine Qb (Qb (Qa (Qc rfl rfl (Qq rfl rfl (Qj (o2 := 7) rfl rfl rfl (Qo rfl rfl (by rfl) ?_))))))
 refine QN rfl rfl rfl (Qc rfl rfl (Qy (dj := 18) rfl (by decide) ?_))
 refine Qd rfl rfl rfl (by decide) (Qd rfl rfl rfl (by decide) (Qs rfl rfl rfl (Qe rfl rfl (WpL.nil (QZ rfl (Qa (Qc rfl rfl (Qq rfl rfl (Qj (o2 := 7) rfl rfl rfl (Qo rfl rfl (by rfl) ?_))))))))))
 refine QN rfl rfl rfl (Qc rfl rfl (Qy (dj := 27) rfl (by decide) ?_))
 refine Qd rfl rfl rfl (by decide) (Qd rfl rfl rfl (by decide) (Qd rfl rfl rfl (by decide) (Xb rfl rfl rfl (Xb rfl rfl rfl (Qd rfl rfl rfl (by decide) (Qs rfl rfl rfl (Qe rfl rfl (WpL.nil (QZ rfl (Qb (Qa (Qc rfl rfl ?_))))))))))))
 refine Qq rfl rfl (Qj (o2 := 7) rfl rfl rfl (Qo rfl rfl (by rfl) ?_))
 refine QN rfl rfl rfl (Qe rfl rfl (WpL.nil (Qz rfl (by decide) (Qb (Qa (Qc rfl rfl (Qq rfl rfl (Qj (o2 := 7) rfl rfl rfl (Qo rfl rfl (by rfl) ?_)))))))))
 refine QN rfl rfl rfl (Qe rfl rfl (WpL.nil (QU rfl rfl (Qb (Qb (Qa (Qc rfl rfl (Qh rfl rfl (by repeat' constructor) (Yh _ (by omega) (by omega)) ?_))))))))
 rintro _ _ ⟨rfl, rfl⟩
 simp only [Qr]
 refine Zq rfl rfl (Qc rfl rfl (Qy (dj := 59) rfl (by rw [hc]; rfl) ?_))
 refine Qd rfl rfl rfl (by decide) (Qd rfl rfl rfl (by decide) (Qs rfl rfl rfl (WpL.nil (QZ rfl (Wp.skip (Qb (Qa (Qc rfl rfl (Qc rfl rfl (Qq rfl rfl (Qj (o2 := 4) rfl rfl rfl (s_ixar (i := 0) (o2 := 4) rfl rfl rfl rfl rfl ?_))))))))))))
 refine Qo rfl rfl (by rfl) ?_
 refine Qh rfl rfl (by repeat' constructor) (Vk l0) ?_
 rintro _ _ ⟨gt, rfl, rfl⟩
 simp only [Qr]
 refine Qq rfl rfl (Qj (o2 := 9) rfl rfl rfl (Q3 rfl rfl rfl (WpL.nil (Qa (Qc rfl rfl (Qq rfl rfl (Qj (o2 := 9) rfl rfl rfl (Qo rfl rfl (by rfl) ?_))))))))
 refine Qc rfl rfl (Qh rfl rfl (by repeat' constructor) (tkPut_spec gt l0 tk0 false (nxV gt 0) c (by unfold Zx tk0; dsimp only; omega) rfl hc0 hc1 (by omega)) ?_)
 rintro _ _ ⟨s', r, bg', nx', hs, rfl, hnx, rfl⟩
 simp only [Qr]
 refine WpL.nil (Qb (Qa (Qe rfl rfl (WpL.nil (Qi ?_)))))
 apply RetQ.mk
 ·exact (Res.one rfl rfl)
 ·exact ⟨gt, s', r, bg', nx', hs, rfl, hnx, rfl⟩
 ·exact Take.ent' (by repeat' constructor)

theorem hdMagic_2c (g : Nat) (K W H M l0 l1 l2 i la e : Int) (pt : Value) (c : Int) (hc0 : 0 ≤ c) (hc1 : c ≤ 255) (hl : (1 ≤ l0 ∧ l0 ≤ 4096) ∧ (1 ≤ l1 ∧ l1 ≤ 65536) ∧ (1 ≤ l2 ∧ l2 ≤ 65535)) (hc : Q6 c = false) (hc2 : c = 35) : Fn Tryz.prog 165 #[.pointer (some ⟨g, 0, none⟩), .int .u8 c] [QA g [.int .i64 K, .int .i64 W, .int .i64 H, .int .i64 M, .int .i64 l0, .int .i64 l1, .int .i64 l2, .int .i64 2, .int .i64 i, pt, .int .i64 la, .int .i64 e] 234] (fun v l => ∃ gt s' r bg' nx', ((s', r) : TS × Int) = QV l0 tk0 c ∧ v = .int .i64 0 ∧ (r = 0 → nx' = nxV gt s'.ph) ∧ l = [QA g [.int .i64 K, .int .i64 W, .int .i64 H, .int .i64 M, .int .i64 l0, .int .i64 l1, .int .i64 l2, .int .i64 3, .int .i64 i, .pointer (some ⟨gt, 0, none⟩), .int .i64 la, .int .i64 e] 234, QA gt [nx', .int .i64 l0, .int .i64 s'.n, .bool bg', .int .i64 r, .int .i64 s'.e] 265]) := by
 refine Qk (vs := [.pointer (some ⟨g, 0, none⟩), .int .u8 c]) Tryz.func165 rfl Tryz.ntmps165 rfl ?_
 refine Qb (Qa (Qe rfl rfl (WpL.nil (Qb (Qa (Qc rfl rfl (Qq rfl rfl (Qj (o2 := 7) rfl rfl rfl (Qo rfl rfl (by rfl) ?_)))))))))
 refine QD rfl rfl rfl (Qu (by omega) (by omega)) ?_
 rw [show (2 : Int) + 1 = 3 from rfl]
 refine Qq rfl rfl (Qj (o2 := 7) rfl rfl rfl (Q3 rfl rfl rfl (WpL.nil (Qb (Wp.block ?_)))))
 refine Qb (Qb (Qa (Qc rfl rfl (Qq rfl rfl (Qj (o2 := 7) rfl rfl rfl (Qo rfl rfl (by rfl) ?_))))))
 refine QN rfl rfl rfl (Qc rfl rfl (Qy (dj := 18) rfl (by decide) ?_))
 refine Qd rfl rfl rfl (by decide) (Qd rfl rfl rfl (by decide) (Qs rfl rfl rfl (Qe rfl rfl (WpL.nil (QZ rfl (Qa (Qc rfl rfl (Qq rfl rfl (Qj (o2 := 7) rfl rfl rfl (Qo rfl rfl (by rfl) ?_))))))))))
 refine QN rfl rfl rfl (Qc rfl rfl (Qy (dj := 27) rfl (by decide) ?_))
 refine Qd rfl rfl rfl (by decide) (Qd rfl rfl rfl (by decide) (Qd rfl rfl rfl (by decide) (Xb rfl rfl rfl (Xb rfl rfl rfl (Qd rfl rfl rfl (by decide) (Qs rfl rfl rfl (Qe rfl rfl (WpL.nil (QZ rfl (Qb (Qa (Qc rfl rfl ?_))))))))))))
 refine Qq rfl rfl (Qj (o2 := 7) rfl rfl rfl (Qo rfl rfl (by rfl) ?_))
 refine QN rfl rfl rfl (Qe rfl rfl (WpL.nil (Qz rfl (by decide) (Qb (Qa (Qc rfl rfl (Qq rfl rfl (Qj (o2 := 7) rfl rfl rfl (Qo rfl rfl (by rfl) ?_)))))))))
 refine QN rfl rfl rfl (Qe rfl rfl (WpL.nil (QU rfl rfl (Qb (Qb (Qa (Qc rfl rfl (Qh rfl rfl (by repeat' constructor) (Yh _ (by omega) (by omega)) ?_))))))))
 rintro _ _ ⟨rfl, rfl⟩
 simp only [Qr]
 refine Zq rfl rfl (Qc rfl rfl (Qx (dj := 59) rfl (by rw [hc]; rfl) ?_))
 refine Qf rfl rfl (Qc rfl rfl (Qf rfl rfl (Xn rfl rfl rfl (Qt rfl rfl rfl (WpL.nil (Qz rfl (fun h => h hc2) ?_))))))
 refine Wp.skip (Qb (Qa (Qc rfl rfl (Qc rfl rfl (Qq rfl rfl (Qj (o2 := 4) rfl rfl rfl (s_ixar (i := 0) (o2 := 4) rfl rfl rfl rfl rfl (Qo rfl rfl (by rfl) ?_))))))))
 refine Qh rfl rfl (by repeat' constructor) (Vk l0) ?_
 rintro _ _ ⟨gt, rfl, rfl⟩
 simp only [Qr]
 refine Qq rfl rfl (Qj (o2 := 9) rfl rfl rfl (Q3 rfl rfl rfl (WpL.nil (Qa (Qc rfl rfl (Qq rfl rfl (Qj (o2 := 9) rfl rfl rfl (Qo rfl rfl (by rfl) ?_))))))))
 refine Qc rfl rfl (Qh rfl rfl (by repeat' constructor) (tkPut_spec gt l0 tk0 false (nxV gt 0) c (by unfold Zx tk0; dsimp only; omega) rfl hc0 hc1 (by omega)) ?_)
 rintro _ _ ⟨s', r, bg', nx', hs, rfl, hnx, rfl⟩
 simp only [Qr]
 refine WpL.nil (Qb (Qa (Qe rfl rfl (WpL.nil (Qi ?_)))))
 apply RetQ.mk
 ·exact (Res.one rfl rfl)
 ·exact ⟨gt, s', r, bg', nx', hs, rfl, hnx, rfl⟩
 ·exact Take.ent' (by repeat' constructor)

end Go.Proofs.YtggamdlpiejbiaaGreat
