/- Walks and plain laws, a part of the proof of PnmOpen: every input that the law's guards let in, no condition beside. -/
import Derived.Test.YtggamdlpiejbiaaGreatM08
namespace Go.Proofs.YtggamdlpiejbiaaGreat
open Go.RowKit Go.Shelf

/-- A number's reader: 0 ahead, 1 a remark ahead, 2 digits, 3 a remark behind, 4 over, 5 wrong. -/
structure TS where
  (ph n e : Int)
def tk0 : TS := ⟨0, 0, 9⟩
def eol (c : Int) : Prop := c = 10 ∨ c = 13
instance (c : Int) : Decidable (eol c) := by unfold eol; infer_instance
def tkPut (most : Int) (s : TS) (c : Int) : TS × Int :=
  if s.ph = 4 then (s, 1) else if s.ph = 5 then (s, 2) else
  if s.ph = 1 then (if eol c then ⟨0, s.n, s.e⟩ else s, 0) else
  if s.ph = 3 then (if eol c then (⟨4, s.n, 0⟩, 1) else (s, 0)) else
  if c = 35 then (⟨s.ph + 1, s.n, s.e⟩, 0) else
  if blankB c = true then (if s.ph = 0 then (s, 0) else (⟨4, s.n, 0⟩, 1)) else
  if (stepN s.n c most).2 ≠ 0 then (⟨5, 0, (stepN s.n c most).2⟩, 2) else (⟨2, (stepN s.n c most).1, s.e⟩, 0)
/-- What a number's reader may be, between bytes. -/
def tkOk (most : Int) (s : TS) : Prop := 0 ≤ s.ph ∧ s.ph ≤ 3 ∧ 0 ≤ s.n ∧ s.n ≤ most ∧ s.e = 9
theorem stepN_ok {n c most : Int} (h0 : 0 ≤ n) (h : (stepN n c most).2 = 0) : 0 ≤ (stepN n c most).1 ∧ (stepN n c most).1 ≤ most := by
  unfold stepN at *
  split at h
  · simp at h
  · rename_i h1
    rw [if_neg h1]
    split at h
    · simp at h
    · rename_i h2
      rw [if_neg h2]
      simp only
      omega
theorem stepN_e {n c most : Int} : (stepN n c most).2 = 0 ∨ (stepN n c most).2 = 3 ∨ (stepN n c most).2 = 4 := by
  unfold stepN
  split
  · simp
  · split <;> simp
theorem tkPut_cases {most : Int} {s : TS} {c : Int} (h : tkOk most s) : ((tkPut most s c).2 = 0 ∧ tkOk most (tkPut most s c).1) ∨ ((tkPut most s c).2 = 1 ∧ (tkPut most s c).1.ph = 4 ∧ (tkPut most s c).1.e = 0 ∧ 0 ≤ (tkPut most s c).1.n ∧ (tkPut most s c).1.n ≤ most) ∨ ((tkPut most s c).2 = 2 ∧ (tkPut most s c).1.ph = 5 ∧ (tkPut most s c).1.n = 0 ∧ ((tkPut most s c).1.e = 3 ∨ (tkPut most s c).1.e = 4)) := by
  obtain ⟨h1, h2, h3, h4, h5⟩ := h
  have he := @stepN_e s.n c most
  unfold tkPut
  rw [if_neg (by omega), if_neg (by omega)]
  split
  · left
    refine ⟨rfl, ?_⟩
    simp only
    split
    · exact ⟨by simp, by simp, h3, h4, h5⟩
    · exact ⟨h1, h2, h3, h4, h5⟩
  · split
    · split
      · exact .inr (.inl ⟨rfl, rfl, rfl, h3, h4⟩)
      · exact .inl ⟨rfl, h1, h2, h3, h4, h5⟩
    · split
      · left; exact ⟨rfl, by simp only; omega, by simp only; omega, h3, h4, h5⟩
      · split
        · split
          · exact .inl ⟨rfl, h1, h2, h3, h4, h5⟩
          · exact .inr (.inl ⟨rfl, rfl, rfl, h3, h4⟩)
        · split
          · rename_i h6
            exact .inr (.inr ⟨rfl, rfl, rfl, by simp only; omega⟩)
          · rename_i h6
            have := stepN_ok (c := c) (most := most) h3 (Classical.not_not.1 h6)
            exact .inl ⟨rfl, by simp, by simp, this.1, this.2, h5⟩
/-- A head's reader. -/
structure HS where
  (K W H M at_ i : Int) (t : TS) (last e : Int)
def hd0 : HS := ⟨0, 0, 0, 0, 0, 0, tk0, 0, 9⟩
def lsel (l0 l1 l2 i : Int) : Int := if i = 0 then l0 else if i = 1 then l1 else l2
def bitsK (K : Int) : Prop := K = 1 ∨ K = 4
instance (K : Int) : Decidable (bitsK K) := by unfold bitsK; infer_instance
def hdMagic (l0 : Int) (s : HS) (c : Int) : HS :=
  if (s.at_ + 1 = 1 ∧ c ≠ 80) ∨ (s.at_ + 1 = 2 ∧ (c < 49 ∨ 54 < c)) then { s with at_ := s.at_ + 1, last := 2, e := 2 } else
  if s.at_ + 1 = 2 then { s with at_ := s.at_ + 1, K := c - 48, last := 0 } else
  if s.at_ + 1 = 3 then (if blankB c = false ∧ c ≠ 35 then { s with at_ := s.at_ + 1, last := 2, e := 3 } else { s with at_ := s.at_ + 1, t := (tkPut l0 tk0 c).1, last := 0 }) else
  { s with at_ := s.at_ + 1, last := 0 }
def hdSet (s : HS) (n : Int) : HS := if s.i = 0 then { s with W := n } else if s.i = 1 then { s with H := n } else { s with M := n }
def hdNext (s : HS) : HS := if s.i + 1 = 2 ∧ bitsK s.K then { s with M := 1, i := 3 } else { s with i := s.i + 1 }
def hdNum (l0 l1 l2 : Int) (s : HS) (c : Int) : HS :=
  if (tkPut (lsel l0 l1 l2 s.i) s.t c).2 = 0 then { s with t := (tkPut (lsel l0 l1 l2 s.i) s.t c).1, last := 0 } else
  if (tkPut (lsel l0 l1 l2 s.i) s.t c).2 = 2 then { s with t := (tkPut (lsel l0 l1 l2 s.i) s.t c).1, last := 2, e := (tkPut (lsel l0 l1 l2 s.i) s.t c).1.e } else
  if (tkPut (lsel l0 l1 l2 s.i) s.t c).1.n = 0 then { s with t := (tkPut (lsel l0 l1 l2 s.i) s.t c).1, last := 2, e := 4 } else
  if (hdNext (hdSet s (tkPut (lsel l0 l1 l2 s.i) s.t c).1.n)).i < 3 then { hdNext (hdSet s (tkPut (lsel l0 l1 l2 s.i) s.t c).1.n) with t := tk0, last := 0 } else
  { hdNext (hdSet s (tkPut (lsel l0 l1 l2 s.i) s.t c).1.n) with t := (tkPut (lsel l0 l1 l2 s.i) s.t c).1, last := 1, e := 0 }
def hdPut (l0 l1 l2 : Int) (s : HS) (c : Int) : HS := if s.last ≠ 0 then s else if s.at_ < 3 then hdMagic l0 s c else hdNum l0 l1 l2 s c
/-- A head's reader told bytes: how it is when it ends, and how many it was told. -/
def hdRun (l0 l1 l2 : Int) : HS → List Int → Int → HS × Int
  | s, [], n => (s, n)
  | s, c :: bs, n => if (hdPut l0 l1 l2 s c).last ≠ 0 then (hdPut l0 l1 l2 s c, n + 1) else hdRun l0 l1 l2 (hdPut l0 l1 l2 s c) bs (n + 1)
/-- The head that bytes begin with, how many bytes it has, the error. -/
def hdP (l0 l1 l2 : Int) (bs : List Int) : (Int × Int × Int × Int) × Int × Int :=
  if (hdRun l0 l1 l2 hd0 bs 0).1.last = 1 then (((hdRun l0 l1 l2 hd0 bs 0).1.K, (hdRun l0 l1 l2 hd0 bs 0).1.W, (hdRun l0 l1 l2 hd0 bs 0).1.H, (hdRun l0 l1 l2 hd0 bs 0).1.M), (hdRun l0 l1 l2 hd0 bs 0).2, 0) else
  if (hdRun l0 l1 l2 hd0 bs 0).1.last = 2 then ((0, 0, 0, 0), (hdRun l0 l1 l2 hd0 bs 0).2, (hdRun l0 l1 l2 hd0 bs 0).1.e) else ((0, 0, 0, 0), bs.length, 6)

end Go.Proofs.YtggamdlpiejbiaaGreat
namespace Go.Proofs.YtggamdlpiejbiaaGreat
open Go.RowKit Go.Shelf


def nxV (g : Nat) (ph : Int) : Value := .func (.func (if ph = 0 then 202 else if ph = 1 then 206 else if ph = 2 then 211 else 212)) #[.pointer (some ⟨g, 0, none⟩)] #[]

theorem ends2_spec (c : Int) : Fn Tryz.prog 210 #[.int .u8 c] [] (fun v l => v = .bool (decide (eol c)) ∧ l = []) := by
  refine Fn.intro (vs := [.int .u8 c]) Tryz.func210 rfl Tryz.ntmps210 rfl ?_
  refine Wp.seq ?_
  refine Wp.region ?_
  refine s_as rfl rfl ?_
  refine WpL.nil ?_
  refine Wp.seq ?_
  refine Wp.region ?_
  refine s_mv rfl rfl ?_
  refine s_eq rfl rfl rfl ?_
  refine s_mv rfl rfl ?_
  refine WpL.grd rfl rfl rfl (fun hg1 => ?_) (fun hg1 => ?_)
  · have hg1 := of_decide_eq_false hg1
    refine s_mv rfl rfl ?_
    refine WpL.gon rfl rfl ?_
    refine s_eq rfl rfl rfl ?_
    refine s_pickF rfl rfl rfl ?_
    refine s_as rfl rfl ?_
    refine WpL.nil ?_
    refine Wp.ret ?_
    apply RetQ.mk
    · exact (Res.one rfl rfl)
    · exact ⟨congrArg Value.bool (by first | exact dd (by unfold eol; first | rfl | omega) | exact dt (by unfold eol; omega) | exact df (by unfold eol; omega)), rfl⟩
    · first | exact Ent.refl _ | exact Ent.nil _ | exact Take.ent' (by repeat' constructor) | (repeat (first | exact Ent.refl _ | refine Ent.drop ?_))
  · have hg1 := of_decide_eq_true hg1
    refine WpL.goff rfl rfl rfl (by decide) ?_
    refine s_pickT rfl rfl rfl ?_
    refine s_as rfl rfl ?_
    refine WpL.nil ?_
    refine Wp.ret ?_
    apply RetQ.mk
    · exact (Res.one rfl rfl)
    · exact ⟨congrArg Value.bool (by first | exact dd (by unfold eol; first | rfl | omega) | exact dt (by unfold eol; omega) | exact df (by unfold eol; omega)), rfl⟩
    · first | exact Ent.refl _ | exact Ent.nil _ | exact Take.ent' (by repeat' constructor) | (repeat (first | exact Ent.refl _ | refine Ent.drop ?_))

theorem digit_spec (g : Nat) (most n e : Int) (la : Int) (bg : Bool) (nx : Value) (c : Int) (hc0 : 0 ≤ c) (hc1 : c ≤ 255) (hn0 : 0 ≤ n) (hm0 : 0 ≤ most) (hm1 : most ≤ 1000000) : Fn Tryz.prog 207 #[.pointer (some ⟨g, 0, none⟩), .int .u8 c] [blk g [nx, .int .i64 most, .int .i64 n, .bool bg, .int .i64 la, .int .i64 e] 265] (fun v l => ((stepN n c most).2 ≠ 0 ∧ v = .int .i64 2 ∧ l = [blk g [nx, .int .i64 most, .int .i64 0, .bool bg, .int .i64 la, .int .i64 (stepN n c most).2] 265]) ∨ ((stepN n c most).2 = 0 ∧ v = .int .i64 0 ∧ l = [blk g [.func (.func 211) #[.pointer (some ⟨g, 0, none⟩)] #[], .int .i64 most, .int .i64 (stepN n c most).1, .bool true, .int .i64 la, .int .i64 e] 265])) := by
  refine Fn.intro (vs := [.pointer (some ⟨g, 0, none⟩), .int .u8 c]) Tryz.func207 rfl Tryz.ntmps207 rfl ?_
  refine Wp.seq ?_
  refine Wp.region ?_
  refine s_as rfl rfl ?_
  refine WpL.nil ?_
  refine Wp.seq ?_
  apply Wp.draw mixed [⟨8, _, []⟩, ⟨9, _, [0]⟩, ⟨10, _, [1]⟩, ⟨11, _, [2]⟩, ⟨12, _, []⟩, ⟨13, _, []⟩, ⟨14, _, [5]⟩, ⟨15, _, [6]⟩, ⟨16, _, [7]⟩, ⟨17, _, [3, 4, 8]⟩, ⟨7, _, [9]⟩, ⟨18, _, [10]⟩, ⟨19, _, [10]⟩, ⟨5, _, [11, 9, 0, 1, 2, 3, 4, 5, 6, 7, 8, 10]⟩, ⟨6, _, [12, 13, 0, 1, 2, 3, 4, 5, 6, 7, 8, 9, 10, 11]⟩] rfl
  · refine AllObs.mk ?_ ?_
    · refine s_mv rfl rfl ?_
      exact obN rfl
    refine AllObs.mk ?_ ?_
    · refine s_nc rfl rfl ?_
      exact obN rfl
    refine AllObs.mk ?_ ?_
    · refine s_fa (o2 := 2) rfl rfl rfl ?_
      exact obN rfl
    refine AllObs.mk ?_ ?_
    · refine s_ld rfl rfl (by rfl) ?_
      exact obN rfl
    refine AllObs.mk ?_ ?_
    · refine s_mv rfl rfl ?_
      exact obN rfl
    refine AllObs.mk ?_ ?_
    · refine s_mv rfl rfl ?_
      exact obN rfl
    refine AllObs.mk ?_ ?_
    · refine s_nc rfl rfl ?_
      exact obN rfl
    refine AllObs.mk ?_ ?_
    · refine s_fa (o2 := 1) rfl rfl rfl ?_
      exact obN rfl
    refine AllObs.mk ?_ ?_
    · refine s_ld rfl rfl (by rfl) ?_
      exact obN rfl
    refine AllObs.mk ?_ ?_
    · refine s_callf rfl rfl (by repeat' constructor) (Step_spec _ _ _ hc0 hc1 hn0 hm0 (by omega)) ?_
      rintro _ _ ⟨rfl, rfl⟩
      simp only [napp]
      exact WpL.nil ⟨rfl, rfl, rfl, by first | exact Ent.refl _ | exact Ent.nil _ | exact Take.ent' (by repeat' constructor) | (repeat (first | exact Ent.refl _ | refine Ent.drop ?_))⟩
    refine AllObs.mk ?_ ?_
    · refine s_mv rfl rfl ?_
      exact obN rfl
    refine AllObs.mk ?_ ?_
    · refine s_ext rfl rfl rfl ?_
      exact obN rfl
    refine AllObs.mk ?_ ?_
    · refine s_ext rfl rfl rfl ?_
      exact obN rfl
    refine AllObs.mk ?_ ?_
    · refine s_as rfl rfl ?_
      exact obN rfl
    refine AllObs.mk ?_ ?_
    · refine s_as rfl rfl ?_
      exact obN rfl
    exact AllObs.nil
  · refine Wp.seq ?_
    refine Wp.block ?_
    refine Wp.seq ?_
    refine Wp.region ?_
    refine s_mv rfl rfl ?_
    refine s_ne rfl rfl rfl ?_
    refine s_as rfl rfl ?_
    refine WpL.nil ?_
    refine Wp.condD rfl (fun h0 => ?_) (fun h0 => ?_)
    · refine Wp.seq ?_
      refine Wp.region ?_
      refine s_mv rfl rfl ?_
      refine s_mv rfl rfl ?_
      refine s_mv rfl rfl ?_
      refine s_nc rfl rfl ?_
      refine s_fa (o2 := 2) rfl rfl rfl ?_
      refine s_st rfl rfl rfl ?_
      refine s_nc rfl rfl ?_
      refine s_fa (o2 := 5) rfl rfl rfl ?_
      refine s_st rfl rfl rfl ?_
      refine WpL.nil ?_
      refine Wp.seq ?_
      refine Wp.region ?_
      refine s_as rfl rfl ?_
      refine WpL.nil ?_
      refine Wp.ret ?_
      apply RetQ.mk
      · exact (Res.one rfl rfl)
      · exact .inl ⟨h0, rfl, rfl⟩
      · first | exact Ent.refl _ | exact Ent.nil _ | exact Take.ent' (by repeat' constructor) | (repeat (first | exact Ent.refl _ | refine Ent.drop ?_))
    · refine Wp.skip ?_
      refine Wp.seq ?_
      refine Wp.region ?_
      refine s_mv rfl rfl ?_
      refine s_mv rfl rfl ?_
      refine s_mv rfl rfl ?_
      refine s_mv rfl rfl ?_
      refine s_mv rfl rfl ?_
      refine s_mkfb rfl rfl rfl ?_
      refine s_nc rfl rfl ?_
      refine s_fa (o2 := 2) rfl rfl rfl ?_
      refine s_st rfl rfl rfl ?_
      refine s_nc rfl rfl ?_
      refine s_fa (o2 := 3) rfl rfl rfl ?_
      refine s_st rfl rfl rfl ?_
      refine s_nc rfl rfl ?_
      refine s_fa (o2 := 0) rfl rfl rfl ?_
      refine s_st rfl rfl rfl ?_
      refine WpL.nil ?_
      refine Wp.seq ?_
      refine Wp.region ?_
      refine s_as rfl rfl ?_
      refine WpL.nil ?_
      refine Wp.ret ?_
      apply RetQ.mk
      · exact (Res.one rfl rfl)
      · exact .inr ⟨Classical.not_not.1 h0, rfl, rfl⟩
      · first | exact Ent.refl _ | exact Ent.nil _ | exact Take.ent' (by repeat' constructor) | (repeat (first | exact Ent.refl _ | refine Ent.drop ?_))

theorem blank_35 {c : Int} (h : blankB c = true) : c ≠ 35 := by unfold blankB at h; have := of_decide_eq_true h; omega

theorem tk_ahead (g : Nat) (most n e : Int) (la : Int) (bg : Bool) (c : Int) (hc0 : 0 ≤ c) (hc1 : c ≤ 255) (hn0 : 0 ≤ n) (hm0 : 0 ≤ most) (hm1 : most ≤ 1000000) : Fn Tryz.prog 202 #[.pointer (some ⟨g, 0, none⟩), .int .u8 c] [blk g [.func (.func 202) #[.pointer (some ⟨g, 0, none⟩)] #[], .int .i64 most, .int .i64 n, .bool bg, .int .i64 la, .int .i64 e] 265] (fun v l => ∃ s' r bg' nx', ((s', r) : TS × Int) = tkPut most ⟨0, n, e⟩ c ∧ v = .int .i64 r ∧ (r = 0 → nx' = nxV g s'.ph) ∧ l = [blk g [nx', .int .i64 most, .int .i64 s'.n, .bool bg', .int .i64 la, .int .i64 s'.e] 265]) := by
  refine Fn.intro (vs := [.pointer (some ⟨g, 0, none⟩), .int .u8 c]) Tryz.func202 rfl Tryz.ntmps202 rfl ?_
  refine Wp.seq ?_
  refine Wp.region ?_
  refine s_as rfl rfl ?_
  refine WpL.nil ?_
  refine Wp.seq ?_
  refine Wp.block ?_
  refine Wp.seq ?_
  refine Wp.region ?_
  refine s_mv rfl rfl ?_
  refine s_callf rfl rfl (by repeat' constructor) (Blank_spec _ (by omega) (by omega)) ?_
  rintro _ _ ⟨rfl, rfl⟩
  simp only [napp]
  refine s_as rfl rfl ?_
  refine WpL.nil ?_
  refine Wp.cond rfl (fun h0 => ?_) (fun h0 => ?_)
  · refine Wp.seq ?_
    refine Wp.region ?_
    refine s_as rfl rfl ?_
    refine WpL.nil ?_
    refine Wp.ret ?_
    apply RetQ.mk
    · exact (Res.one rfl rfl)
    · exact ⟨⟨0, n, e⟩, 0, bg, .func (.func 202) #[.pointer (some ⟨g, 0, none⟩)] #[], by unfold tkPut; dsimp only; rw [if_neg (by decide), if_neg (by decide), if_neg (by decide), if_neg (by decide), if_neg (blank_35 h0), if_pos h0, if_pos rfl], rfl, (fun hz => by first | rfl | exact absurd hz (by decide)), rfl⟩
    · first | exact Ent.refl _ | exact Ent.nil _ | exact Take.ent' (by repeat' constructor) | (repeat (first | exact Ent.refl _ | refine Ent.drop ?_))
  · refine Wp.seq ?_
    refine Wp.region ?_
    refine s_mv rfl rfl ?_
    refine s_eq rfl rfl rfl ?_
    refine s_as rfl rfl ?_
    refine WpL.nil ?_
    refine Wp.condD rfl (fun h1 => ?_) (fun h1 => ?_)
    · refine Wp.seq ?_
      refine Wp.region ?_
      refine s_mv rfl rfl ?_
      refine s_mv rfl rfl ?_
      refine s_mkfb rfl rfl rfl ?_
      refine s_nc rfl rfl ?_
      refine s_fa (o2 := 0) rfl rfl rfl ?_
      refine s_st rfl rfl rfl ?_
      refine WpL.nil ?_
      refine Wp.seq ?_
      refine Wp.region ?_
      refine s_as rfl rfl ?_
      refine WpL.nil ?_
      refine Wp.ret ?_
      apply RetQ.mk
      · exact (Res.one rfl rfl)
      · exact ⟨⟨1, n, e⟩, 0, bg, .func (.func 206) #[.pointer (some ⟨g, 0, none⟩)] #[], by unfold tkPut; dsimp only; rw [if_neg (by decide), if_neg (by decide), if_neg (by decide), if_neg (by decide), if_pos h1]; rfl, rfl, (fun hz => by first | rfl | exact absurd hz (by decide)), rfl⟩
      · first | exact Ent.refl _ | exact Ent.nil _ | exact Take.ent' (by repeat' constructor) | (repeat (first | exact Ent.refl _ | refine Ent.drop ?_))
    · refine Wp.skip ?_
      refine Wp.seq ?_
      refine Wp.region ?_
      refine s_mv rfl rfl ?_
      refine s_mv rfl rfl ?_
      refine s_callf rfl rfl (by repeat' constructor) (digit_spec g most n e la bg _ c hc0 hc1 hn0 hm0 hm1) ?_
      intro v0 m0 hN0
      rcases hN0 with ⟨hE, rfl, rfl⟩ | ⟨hE, rfl, rfl⟩
      · simp only [napp]
        refine s_as rfl rfl ?_
        refine WpL.nil ?_
        refine Wp.ret ?_
        apply RetQ.mk
        · exact (Res.one rfl rfl)
        · exact ⟨⟨5, 0, (stepN n c most).2⟩, 2, bg, .func (.func 202) #[.pointer (some ⟨g, 0, none⟩)] #[], by unfold tkPut; dsimp only; rw [if_neg (by decide), if_neg (by decide), if_neg (by decide), if_neg (by decide), if_neg h1, if_neg (by rw [h0]; decide), if_pos hE], rfl, (fun hz => by first | rfl | exact absurd hz (by decide)), rfl⟩
        · first | exact Ent.refl _ | exact Ent.nil _ | exact Take.ent' (by repeat' constructor) | (repeat (first | exact Ent.refl _ | refine Ent.drop ?_))
      · simp only [napp]
        refine s_as rfl rfl ?_
        refine WpL.nil ?_
        refine Wp.ret ?_
        apply RetQ.mk
        · exact (Res.one rfl rfl)
        · exact ⟨⟨2, (stepN n c most).1, e⟩, 0, true, .func (.func 211) #[.pointer (some ⟨g, 0, none⟩)] #[], by unfold tkPut; dsimp only; rw [if_neg (by decide), if_neg (by decide), if_neg (by decide), if_neg (by decide), if_neg h1, if_neg (by rw [h0]; decide), if_neg (fun h => h hE)], rfl, (fun hz => by first | rfl | exact absurd hz (by decide)), rfl⟩
        · first | exact Ent.refl _ | exact Ent.nil _ | exact Take.ent' (by repeat' constructor) | (repeat (first | exact Ent.refl _ | refine Ent.drop ?_))

theorem tk_behind (g : Nat) (most n e : Int) (la : Int) (bg : Bool) (c : Int) (hc0 : 0 ≤ c) (hc1 : c ≤ 255) (hn0 : 0 ≤ n) (hm0 : 0 ≤ most) (hm1 : most ≤ 1000000) : Fn Tryz.prog 211 #[.pointer (some ⟨g, 0, none⟩), .int .u8 c] [blk g [.func (.func 211) #[.pointer (some ⟨g, 0, none⟩)] #[], .int .i64 most, .int .i64 n, .bool bg, .int .i64 la, .int .i64 e] 265] (fun v l => ∃ s' r bg' nx', ((s', r) : TS × Int) = tkPut most ⟨2, n, e⟩ c ∧ v = .int .i64 r ∧ (r = 0 → nx' = nxV g s'.ph) ∧ l = [blk g [nx', .int .i64 most, .int .i64 s'.n, .bool bg', .int .i64 la, .int .i64 s'.e] 265]) := by
  refine Fn.intro (vs := [.pointer (some ⟨g, 0, none⟩), .int .u8 c]) Tryz.func211 rfl Tryz.ntmps211 rfl ?_
  refine Wp.seq ?_
  refine Wp.region ?_
  refine s_as rfl rfl ?_
  refine WpL.nil ?_
  refine Wp.seq ?_
  refine Wp.block ?_
  refine Wp.seq ?_
  refine Wp.region ?_
  refine s_mv rfl rfl ?_
  refine s_callf rfl rfl (by repeat' constructor) (Blank_spec _ (by omega) (by omega)) ?_
  rintro _ _ ⟨rfl, rfl⟩
  simp only [napp]
  refine s_as rfl rfl ?_
  refine WpL.nil ?_
  refine Wp.cond rfl (fun h0 => ?_) (fun h0 => ?_)
  · refine Wp.seq ?_
    refine Wp.region ?_
    refine s_mv rfl rfl ?_
    refine s_nc rfl rfl ?_
    refine s_fa (o2 := 5) rfl rfl rfl ?_
    refine s_st rfl rfl rfl ?_
    refine WpL.nil ?_
    refine Wp.seq ?_
    refine Wp.region ?_
    refine s_as rfl rfl ?_
    refine WpL.nil ?_
    refine Wp.ret ?_
    apply RetQ.mk
    · exact (Res.one rfl rfl)
    · exact ⟨⟨4, n, 0⟩, 1, bg, .func (.func 211) #[.pointer (some ⟨g, 0, none⟩)] #[], by unfold tkPut; dsimp only; rw [if_neg (by decide), if_neg (by decide), if_neg (by decide), if_neg (by decide), if_neg (blank_35 h0), if_pos h0, if_neg (by decide)], rfl, (fun hz => by first | rfl | exact absurd hz (by decide)), rfl⟩
    · first | exact Ent.refl _ | exact Ent.nil _ | exact Take.ent' (by repeat' constructor) | (repeat (first | exact Ent.refl _ | refine Ent.drop ?_))
  · refine Wp.seq ?_
    refine Wp.region ?_
    refine s_mv rfl rfl ?_
    refine s_eq rfl rfl rfl ?_
    refine s_as rfl rfl ?_
    refine WpL.nil ?_
    refine Wp.condD rfl (fun h1 => ?_) (fun h1 => ?_)
    · refine Wp.seq ?_
      refine Wp.region ?_
      refine s_mv rfl rfl ?_
      refine s_mv rfl rfl ?_
      refine s_mkfb rfl rfl rfl ?_
      refine s_nc rfl rfl ?_
      refine s_fa (o2 := 0) rfl rfl rfl ?_
      refine s_st rfl rfl rfl ?_
      refine WpL.nil ?_
      refine Wp.seq ?_
      refine Wp.region ?_
      refine s_as rfl rfl ?_
      refine WpL.nil ?_
      refine Wp.ret ?_
      apply RetQ.mk
      · exact (Res.one rfl rfl)
      · exact ⟨⟨3, n, e⟩, 0, bg, .func (.func 212) #[.pointer (some ⟨g, 0, none⟩)] #[], by unfold tkPut; dsimp only; rw [if_neg (by decide), if_neg (by decide), if_neg (by decide), if_neg (by decide), if_pos h1]; rfl, rfl, (fun hz => by first | rfl | exact absurd hz (by decide)), rfl⟩
      · first | exact Ent.refl _ | exact Ent.nil _ | exact Take.ent' (by repeat' constructor) | (repeat (first | exact Ent.refl _ | refine Ent.drop ?_))
    · refine Wp.skip ?_
      refine Wp.seq ?_
      refine Wp.region ?_
      refine s_mv rfl rfl ?_
      refine s_mv rfl rfl ?_
      refine s_callf rfl rfl (by repeat' constructor) (digit_spec g most n e la bg _ c hc0 hc1 hn0 hm0 hm1) ?_
      intro v0 m0 hN0
      rcases hN0 with ⟨hE, rfl, rfl⟩ | ⟨hE, rfl, rfl⟩
      · simp only [napp]
        refine s_as rfl rfl ?_
        refine WpL.nil ?_
        refine Wp.ret ?_
        apply RetQ.mk
        · exact (Res.one rfl rfl)
        · exact ⟨⟨5, 0, (stepN n c most).2⟩, 2, bg, .func (.func 211) #[.pointer (some ⟨g, 0, none⟩)] #[], by unfold tkPut; dsimp only; rw [if_neg (by decide), if_neg (by decide), if_neg (by decide), if_neg (by decide), if_neg h1, if_neg (by rw [h0]; decide), if_pos hE], rfl, (fun hz => by first | rfl | exact absurd hz (by decide)), rfl⟩
        · first | exact Ent.refl _ | exact Ent.nil _ | exact Take.ent' (by repeat' constructor) | (repeat (first | exact Ent.refl _ | refine Ent.drop ?_))
      · simp only [napp]
        refine s_as rfl rfl ?_
        refine WpL.nil ?_
        refine Wp.ret ?_
        apply RetQ.mk
        · exact (Res.one rfl rfl)
        · exact ⟨⟨2, (stepN n c most).1, e⟩, 0, true, .func (.func 211) #[.pointer (some ⟨g, 0, none⟩)] #[], by unfold tkPut; dsimp only; rw [if_neg (by decide), if_neg (by decide), if_neg (by decide), if_neg (by decide), if_neg h1, if_neg (by rw [h0]; decide), if_neg (fun h => h hE)], rfl, (fun hz => by first | rfl | exact absurd hz (by decide)), rfl⟩
        · first | exact Ent.refl _ | exact Ent.nil _ | exact Take.ent' (by repeat' constructor) | (repeat (first | exact Ent.refl _ | refine Ent.drop ?_))

theorem tk_remark (g : Nat) (most n e : Int) (la : Int) (bg : Bool) (c : Int) : Fn Tryz.prog 206 #[.pointer (some ⟨g, 0, none⟩), .int .u8 c] [blk g [.func (.func 206) #[.pointer (some ⟨g, 0, none⟩)] #[], .int .i64 most, .int .i64 n, .bool bg, .int .i64 la, .int .i64 e] 265] (fun v l => ∃ s' r bg' nx', ((s', r) : TS × Int) = tkPut most ⟨1, n, e⟩ c ∧ v = .int .i64 r ∧ (r = 0 → nx' = nxV g s'.ph) ∧ l = [blk g [nx', .int .i64 most, .int .i64 s'.n, .bool bg', .int .i64 la, .int .i64 s'.e] 265]) := by
  refine Fn.intro (vs := [.pointer (some ⟨g, 0, none⟩), .int .u8 c]) Tryz.func206 rfl Tryz.ntmps206 rfl ?_
  refine Wp.seq ?_
  refine Wp.region ?_
  refine s_as rfl rfl ?_
  refine WpL.nil ?_
  refine Wp.seq ?_
  refine Wp.seq ?_
  refine Wp.region ?_
  refine s_mv rfl rfl ?_
  refine s_callf rfl rfl (by repeat' constructor) (ends2_spec _) ?_
  rintro _ _ ⟨rfl, rfl⟩
  simp only [napp]
  refine WpL.nil ?_
  refine Wp.condD rfl (fun h0 => ?_) (fun h0 => ?_)
  · refine Wp.region ?_
    refine s_mv rfl rfl ?_
    refine s_mv rfl rfl ?_
    refine s_mkfb rfl rfl rfl ?_
    refine s_nc rfl rfl ?_
    refine s_fa (o2 := 0) rfl rfl rfl ?_
    refine s_st rfl rfl rfl ?_
    refine WpL.nil ?_
    refine Wp.seq ?_
    refine Wp.region ?_
    refine s_as rfl rfl ?_
    refine WpL.nil ?_
    refine Wp.ret ?_
    apply RetQ.mk
    · exact (Res.one rfl rfl)
    · exact ⟨⟨0, n, e⟩, 0, bg, .func (.func 202) #[.pointer (some ⟨g, 0, none⟩)] #[], by unfold tkPut; dsimp only; rw [if_neg (by decide), if_neg (by decide), if_pos rfl, if_pos h0], rfl, (fun hz => by first | rfl | exact absurd hz (by decide)), rfl⟩
    · first | exact Ent.refl _ | exact Ent.nil _ | exact Take.ent' (by repeat' constructor) | (repeat (first | exact Ent.refl _ | refine Ent.drop ?_))
  · refine Wp.skip ?_
    refine Wp.seq ?_
    refine Wp.region ?_
    refine s_as rfl rfl ?_
    refine WpL.nil ?_
    refine Wp.ret ?_
    apply RetQ.mk
    · exact (Res.one rfl rfl)
    · exact ⟨⟨1, n, e⟩, 0, bg, .func (.func 206) #[.pointer (some ⟨g, 0, none⟩)] #[], by unfold tkPut; dsimp only; rw [if_neg (by decide), if_neg (by decide), if_pos rfl, if_neg h0], rfl, (fun hz => by first | rfl | exact absurd hz (by decide)), rfl⟩
    · first | exact Ent.refl _ | exact Ent.nil _ | exact Take.ent' (by repeat' constructor) | (repeat (first | exact Ent.refl _ | refine Ent.drop ?_))

theorem tk_end (g : Nat) (most n e : Int) (la : Int) (bg : Bool) (c : Int) : Fn Tryz.prog 212 #[.pointer (some ⟨g, 0, none⟩), .int .u8 c] [blk g [.func (.func 212) #[.pointer (some ⟨g, 0, none⟩)] #[], .int .i64 most, .int .i64 n, .bool bg, .int .i64 la, .int .i64 e] 265] (fun v l => ∃ s' r bg' nx', ((s', r) : TS × Int) = tkPut most ⟨3, n, e⟩ c ∧ v = .int .i64 r ∧ (r = 0 → nx' = nxV g s'.ph) ∧ l = [blk g [nx', .int .i64 most, .int .i64 s'.n, .bool bg', .int .i64 la, .int .i64 s'.e] 265]) := by
  refine Fn.intro (vs := [.pointer (some ⟨g, 0, none⟩), .int .u8 c]) Tryz.func212 rfl Tryz.ntmps212 rfl ?_
  refine Wp.seq ?_
  refine Wp.region ?_
  refine s_as rfl rfl ?_
  refine WpL.nil ?_
  refine Wp.seq ?_
  refine Wp.seq ?_
  refine Wp.region ?_
  refine s_mv rfl rfl ?_
  refine s_callf rfl rfl (by repeat' constructor) (ends2_spec _) ?_
  rintro _ _ ⟨rfl, rfl⟩
  simp only [napp]
  refine s_notD rfl rfl ?_
  refine WpL.nil ?_
  refine Wp.condD rfl (fun h0 => ?_) (fun h0 => ?_)
  · refine Wp.seq ?_
    refine Wp.region ?_
    refine s_as rfl rfl ?_
    refine WpL.nil ?_
    refine Wp.ret ?_
    apply RetQ.mk
    · exact (Res.one rfl rfl)
    · exact ⟨⟨3, n, e⟩, 0, bg, .func (.func 212) #[.pointer (some ⟨g, 0, none⟩)] #[], by unfold tkPut; dsimp only; rw [if_neg (by decide), if_neg (by decide), if_neg (by decide), if_pos rfl, if_neg h0], rfl, (fun hz => by first | rfl | exact absurd hz (by decide)), rfl⟩
    · first | exact Ent.refl _ | exact Ent.nil _ | exact Take.ent' (by repeat' constructor) | (repeat (first | exact Ent.refl _ | refine Ent.drop ?_))
  · refine Wp.skip ?_
    refine Wp.seq ?_
    refine Wp.region ?_
    refine s_mv rfl rfl ?_
    refine s_nc rfl rfl ?_
    refine s_fa (o2 := 5) rfl rfl rfl ?_
    refine s_st rfl rfl rfl ?_
    refine WpL.nil ?_
    refine Wp.seq ?_
    refine Wp.region ?_
    refine s_as rfl rfl ?_
    refine WpL.nil ?_
    refine Wp.ret ?_
    apply RetQ.mk
    · exact (Res.one rfl rfl)
    · exact ⟨⟨4, n, 0⟩, 1, bg, .func (.func 212) #[.pointer (some ⟨g, 0, none⟩)] #[], by unfold tkPut; dsimp only; rw [if_neg (by decide), if_neg (by decide), if_neg (by decide), if_pos rfl, if_pos (Classical.not_not.1 h0)], rfl, (fun hz => by first | rfl | exact absurd hz (by decide)), rfl⟩
    · first | exact Ent.refl _ | exact Ent.nil _ | exact Take.ent' (by repeat' constructor) | (repeat (first | exact Ent.refl _ | refine Ent.drop ?_))

theorem tkPut_0 (g : Nat) (most n e : Int) (bg : Bool) (c : Int) (hc0 : 0 ≤ c) (hc1 : c ≤ 255) (hn0 : 0 ≤ n) (hm0 : 0 ≤ most) (hm1 : most ≤ 1000000) : Fn Tryz.prog 192 #[.pointer (some ⟨g, 0, none⟩), .int .u8 c] [blk g [.func (.func 202) #[.pointer (some ⟨g, 0, none⟩)] #[], .int .i64 most, .int .i64 n, .bool bg, .int .i64 0, .int .i64 e] 265] (fun v l => ∃ s' r bg' nx', ((s', r) : TS × Int) = tkPut most ⟨0, n, e⟩ c ∧ v = .int .i64 r ∧ (r = 0 → nx' = nxV g s'.ph) ∧ l = [blk g [nx', .int .i64 most, .int .i64 s'.n, .bool bg', .int .i64 r, .int .i64 s'.e] 265]) := by
  refine Fn.intro (vs := [.pointer (some ⟨g, 0, none⟩), .int .u8 c]) Tryz.func192 rfl Tryz.ntmps192 rfl ?_
  refine Wp.seq ?_
  refine Wp.region ?_
  refine s_as rfl rfl ?_
  refine WpL.nil ?_
  refine Wp.seq ?_
  refine Wp.seq ?_
  refine Wp.region ?_
  refine s_mv rfl rfl ?_
  refine s_nc rfl rfl ?_
  refine s_fa (o2 := 4) rfl rfl rfl ?_
  refine s_ld rfl rfl (by rfl) ?_
  refine s_eq rfl rfl rfl ?_
  refine WpL.nil ?_
  refine Wp.condDT rfl rfl ?_
  refine Wp.region ?_
  refine s_mv rfl rfl ?_
  refine s_mv rfl rfl ?_
  refine s_nc rfl rfl ?_
  refine s_fa (o2 := 0) rfl rfl rfl ?_
  refine s_ld rfl rfl (by rfl) ?_
  refine s_mv rfl rfl ?_
  refine s_call (u := [.pointer (some ⟨g, 0, none⟩)]) (c := []) rfl rfl rfl rfl (by repeat' constructor) (tk_ahead g most n e 0 bg c hc0 hc1 hn0 hm0 hm1) ?_
  rintro _ _ ⟨s', r, bg', nx', hs, rfl, hnx, rfl⟩
  simp only [napp]
  refine s_nc rfl rfl ?_
  refine s_fa (o2 := 4) rfl rfl rfl ?_
  refine s_st rfl rfl rfl ?_
  refine WpL.nil ?_
  refine Wp.seq ?_
  refine Wp.region ?_
  refine s_mv rfl rfl ?_
  refine s_nc rfl rfl ?_
  refine s_fa (o2 := 4) rfl rfl rfl ?_
  refine s_ld rfl rfl (by rfl) ?_
  refine s_as rfl rfl ?_
  refine WpL.nil ?_
  refine Wp.ret ?_
  apply RetQ.mk
  · exact (Res.one rfl rfl)
  · exact ⟨s', r, bg', nx', hs, rfl, hnx, rfl⟩
  · first | exact Ent.refl _ | exact Ent.nil _ | exact Take.ent' (by repeat' constructor) | (repeat (first | exact Ent.refl _ | refine Ent.drop ?_))

theorem tkPut_1 (g : Nat) (most n e : Int) (bg : Bool) (c : Int) : Fn Tryz.prog 192 #[.pointer (some ⟨g, 0, none⟩), .int .u8 c] [blk g [.func (.func 206) #[.pointer (some ⟨g, 0, none⟩)] #[], .int .i64 most, .int .i64 n, .bool bg, .int .i64 0, .int .i64 e] 265] (fun v l => ∃ s' r bg' nx', ((s', r) : TS × Int) = tkPut most ⟨1, n, e⟩ c ∧ v = .int .i64 r ∧ (r = 0 → nx' = nxV g s'.ph) ∧ l = [blk g [nx', .int .i64 most, .int .i64 s'.n, .bool bg', .int .i64 r, .int .i64 s'.e] 265]) := by
  refine Fn.intro (vs := [.pointer (some ⟨g, 0, none⟩), .int .u8 c]) Tryz.func192 rfl Tryz.ntmps192 rfl ?_
  refine Wp.seq ?_
  refine Wp.region ?_
  refine s_as rfl rfl ?_
  refine WpL.nil ?_
  refine Wp.seq ?_
  refine Wp.seq ?_
  refine Wp.region ?_
  refine s_mv rfl rfl ?_
  refine s_nc rfl rfl ?_
  refine s_fa (o2 := 4) rfl rfl rfl ?_
  refine s_ld rfl rfl (by rfl) ?_
  refine s_eq rfl rfl rfl ?_
  refine WpL.nil ?_
  refine Wp.condDT rfl rfl ?_
  refine Wp.region ?_
  refine s_mv rfl rfl ?_
  refine s_mv rfl rfl ?_
  refine s_nc rfl rfl ?_
  refine s_fa (o2 := 0) rfl rfl rfl ?_
  refine s_ld rfl rfl (by rfl) ?_
  refine s_mv rfl rfl ?_
  refine s_call (u := [.pointer (some ⟨g, 0, none⟩)]) (c := []) rfl rfl rfl rfl (by repeat' constructor) (tk_remark g most n e 0 bg c) ?_
  rintro _ _ ⟨s', r, bg', nx', hs, rfl, hnx, rfl⟩
  simp only [napp]
  refine s_nc rfl rfl ?_
  refine s_fa (o2 := 4) rfl rfl rfl ?_
  refine s_st rfl rfl rfl ?_
  refine WpL.nil ?_
  refine Wp.seq ?_
  refine Wp.region ?_
  refine s_mv rfl rfl ?_
  refine s_nc rfl rfl ?_
  refine s_fa (o2 := 4) rfl rfl rfl ?_
  refine s_ld rfl rfl (by rfl) ?_
  refine s_as rfl rfl ?_
  refine WpL.nil ?_
  refine Wp.ret ?_
  apply RetQ.mk
  · exact (Res.one rfl rfl)
  · exact ⟨s', r, bg', nx', hs, rfl, hnx, rfl⟩
  · first | exact Ent.refl _ | exact Ent.nil _ | exact Take.ent' (by repeat' constructor) | (repeat (first | exact Ent.refl _ | refine Ent.drop ?_))

theorem tkPut_2 (g : Nat) (most n e : Int) (bg : Bool) (c : Int) (hc0 : 0 ≤ c) (hc1 : c ≤ 255) (hn0 : 0 ≤ n) (hm0 : 0 ≤ most) (hm1 : most ≤ 1000000) : Fn Tryz.prog 192 #[.pointer (some ⟨g, 0, none⟩), .int .u8 c] [blk g [.func (.func 211) #[.pointer (some ⟨g, 0, none⟩)] #[], .int .i64 most, .int .i64 n, .bool bg, .int .i64 0, .int .i64 e] 265] (fun v l => ∃ s' r bg' nx', ((s', r) : TS × Int) = tkPut most ⟨2, n, e⟩ c ∧ v = .int .i64 r ∧ (r = 0 → nx' = nxV g s'.ph) ∧ l = [blk g [nx', .int .i64 most, .int .i64 s'.n, .bool bg', .int .i64 r, .int .i64 s'.e] 265]) := by
  refine Fn.intro (vs := [.pointer (some ⟨g, 0, none⟩), .int .u8 c]) Tryz.func192 rfl Tryz.ntmps192 rfl ?_
  refine Wp.seq ?_
  refine Wp.region ?_
  refine s_as rfl rfl ?_
  refine WpL.nil ?_
  refine Wp.seq ?_
  refine Wp.seq ?_
  refine Wp.region ?_
  refine s_mv rfl rfl ?_
  refine s_nc rfl rfl ?_
  refine s_fa (o2 := 4) rfl rfl rfl ?_
  refine s_ld rfl rfl (by rfl) ?_
  refine s_eq rfl rfl rfl ?_
  refine WpL.nil ?_
  refine Wp.condDT rfl rfl ?_
  refine Wp.region ?_
  refine s_mv rfl rfl ?_
  refine s_mv rfl rfl ?_
  refine s_nc rfl rfl ?_
  refine s_fa (o2 := 0) rfl rfl rfl ?_
  refine s_ld rfl rfl (by rfl) ?_
  refine s_mv rfl rfl ?_
  refine s_call (u := [.pointer (some ⟨g, 0, none⟩)]) (c := []) rfl rfl rfl rfl (by repeat' constructor) (tk_behind g most n e 0 bg c hc0 hc1 hn0 hm0 hm1) ?_
  rintro _ _ ⟨s', r, bg', nx', hs, rfl, hnx, rfl⟩
  simp only [napp]
  refine s_nc rfl rfl ?_
  refine s_fa (o2 := 4) rfl rfl rfl ?_
  refine s_st rfl rfl rfl ?_
  refine WpL.nil ?_
  refine Wp.seq ?_
  refine Wp.region ?_
  refine s_mv rfl rfl ?_
  refine s_nc rfl rfl ?_
  refine s_fa (o2 := 4) rfl rfl rfl ?_
  refine s_ld rfl rfl (by rfl) ?_
  refine s_as rfl rfl ?_
  refine WpL.nil ?_
  refine Wp.ret ?_
  apply RetQ.mk
  · exact (Res.one rfl rfl)
  · exact ⟨s', r, bg', nx', hs, rfl, hnx, rfl⟩
  · first | exact Ent.refl _ | exact Ent.nil _ | exact Take.ent' (by repeat' constructor) | (repeat (first | exact Ent.refl _ | refine Ent.drop ?_))

theorem tkPut_3 (g : Nat) (most n e : Int) (bg : Bool) (c : Int) : Fn Tryz.prog 192 #[.pointer (some ⟨g, 0, none⟩), .int .u8 c] [blk g [.func (.func 212) #[.pointer (some ⟨g, 0, none⟩)] #[], .int .i64 most, .int .i64 n, .bool bg, .int .i64 0, .int .i64 e] 265] (fun v l => ∃ s' r bg' nx', ((s', r) : TS × Int) = tkPut most ⟨3, n, e⟩ c ∧ v = .int .i64 r ∧ (r = 0 → nx' = nxV g s'.ph) ∧ l = [blk g [nx', .int .i64 most, .int .i64 s'.n, .bool bg', .int .i64 r, .int .i64 s'.e] 265]) := by
  refine Fn.intro (vs := [.pointer (some ⟨g, 0, none⟩), .int .u8 c]) Tryz.func192 rfl Tryz.ntmps192 rfl ?_
  refine Wp.seq ?_
  refine Wp.region ?_
  refine s_as rfl rfl ?_
  refine WpL.nil ?_
  refine Wp.seq ?_
  refine Wp.seq ?_
  refine Wp.region ?_
  refine s_mv rfl rfl ?_
  refine s_nc rfl rfl ?_
  refine s_fa (o2 := 4) rfl rfl rfl ?_
  refine s_ld rfl rfl (by rfl) ?_
  refine s_eq rfl rfl rfl ?_
  refine WpL.nil ?_
  refine Wp.condDT rfl rfl ?_
  refine Wp.region ?_
  refine s_mv rfl rfl ?_
  refine s_mv rfl rfl ?_
  refine s_nc rfl rfl ?_
  refine s_fa (o2 := 0) rfl rfl rfl ?_
  refine s_ld rfl rfl (by rfl) ?_
  refine s_mv rfl rfl ?_
  refine s_call (u := [.pointer (some ⟨g, 0, none⟩)]) (c := []) rfl rfl rfl rfl (by repeat' constructor) (tk_end g most n e 0 bg c) ?_
  rintro _ _ ⟨s', r, bg', nx', hs, rfl, hnx, rfl⟩
  simp only [napp]
  refine s_nc rfl rfl ?_
  refine s_fa (o2 := 4) rfl rfl rfl ?_
  refine s_st rfl rfl rfl ?_
  refine WpL.nil ?_
  refine Wp.seq ?_
  refine Wp.region ?_
  refine s_mv rfl rfl ?_
  refine s_nc rfl rfl ?_
  refine s_fa (o2 := 4) rfl rfl rfl ?_
  refine s_ld rfl rfl (by rfl) ?_
  refine s_as rfl rfl ?_
  refine WpL.nil ?_
  refine Wp.ret ?_
  apply RetQ.mk
  · exact (Res.one rfl rfl)
  · exact ⟨s', r, bg', nx', hs, rfl, hnx, rfl⟩
  · first | exact Ent.refl _ | exact Ent.nil _ | exact Take.ent' (by repeat' constructor) | (repeat (first | exact Ent.refl _ | refine Ent.drop ?_))


theorem tkPut_spec (g : Nat) (most : Int) (s : TS) (bg : Bool) (nx : Value) (c : Int) (hok : tkOk most s) (hnx : nx = nxV g s.ph) (hc0 : 0 ≤ c) (hc1 : c ≤ 255) (hm1 : most ≤ 1000000) :
    Fn Tryz.prog 192 #[.pointer (some ⟨g, 0, none⟩), .int .u8 c] [blk g [nx, .int .i64 most, .int .i64 s.n, .bool bg, .int .i64 0, .int .i64 s.e] 265] (fun v l => ∃ s' r bg' nx', ((s', r) : TS × Int) = tkPut most s c ∧ v = .int .i64 r ∧ (r = 0 → nx' = nxV g s'.ph) ∧ l = [blk g [nx', .int .i64 most, .int .i64 s'.n, .bool bg', .int .i64 r, .int .i64 s'.e] 265]) := by
  obtain ⟨ph, n, e⟩ := s
  obtain ⟨h1, h2, h3, h4, h5⟩ := hok
  dsimp only at *
  subst hnx
  obtain rfl | rfl | rfl | rfl : ph = 0 ∨ ph = 1 ∨ ph = 2 ∨ ph = 3 := by omega
  · exact tkPut_0 g most n e bg c hc0 hc1 h3 (by omega) hm1
  · exact tkPut_1 g most n e bg c
  · exact tkPut_2 g most n e bg c hc0 hc1 h3 (by omega) hm1
  · exact tkPut_3 g most n e bg c

theorem tkValue_spec (g : Nat) (most n e la : Int) (bg : Bool) (nx : Value) : Fn Tryz.prog 193 #[.pointer (some ⟨g, 0, none⟩)] [blk g [nx, .int .i64 most, .int .i64 n, .bool bg, .int .i64 la, .int .i64 e] 265] (fun v l => v = .tuple #[.int .i64 (if la = 1 then n else 0), .int .i64 (if la = 1 then 0 else e)] ∧ l = [blk g [nx, .int .i64 most, .int .i64 n, .bool bg, .int .i64 la, .int .i64 e] 265]) := by
  refine Fn.intro (vs := [.pointer (some ⟨g, 0, none⟩)]) Tryz.func193 rfl Tryz.ntmps193 rfl ?_
  refine Wp.seq ?_
  refine Wp.region ?_
  refine s_as rfl rfl ?_
  refine s_as rfl rfl ?_
  refine WpL.nil ?_
  refine Wp.seq ?_
  refine Wp.seq ?_
  refine Wp.region ?_
  refine s_mv rfl rfl ?_
  refine s_nc rfl rfl ?_
  refine s_fa (o2 := 4) rfl rfl rfl ?_
  refine s_ld rfl rfl (by rfl) ?_
  refine s_ne rfl rfl rfl ?_
  refine WpL.nil ?_
  refine Wp.condD rfl (fun h0 => ?_) (fun h0 => ?_)
  · refine Wp.seq ?_
    apply Wp.draw mixed [⟨9, _, []⟩, ⟨10, _, [0]⟩, ⟨11, _, [1]⟩, ⟨12, _, [2]⟩, ⟨2, _, []⟩, ⟨3, _, [3, 4, 0, 1, 2]⟩] rfl
    · refine AllObs.mk ?_ ?_
      · refine s_mv rfl rfl ?_
        exact obN rfl
      refine AllObs.mk ?_ ?_
      · refine s_nc rfl rfl ?_
        exact obN rfl
      refine AllObs.mk ?_ ?_
      · refine s_fa (o2 := 5) rfl rfl rfl ?_
        exact obN rfl
      refine AllObs.mk ?_ ?_
      · refine s_ld rfl rfl (by rfl) ?_
        exact obN rfl
      refine AllObs.mk ?_ ?_
      · refine s_as rfl rfl ?_
        exact obN rfl
      refine AllObs.mk ?_ ?_
      · refine s_as rfl rfl ?_
        exact obN rfl
      exact AllObs.nil
    · refine Wp.ret ?_
      apply RetQ.mk
      · exact (Res.two rfl rfl rfl)
      · exact ⟨by rw [if_neg h0, if_neg h0], rfl⟩
      · first | exact Ent.refl _ | exact Ent.nil _ | exact Take.ent' (by repeat' constructor) | (repeat (first | exact Ent.refl _ | refine Ent.drop ?_))
  · refine Wp.skip ?_
    refine Wp.seq ?_
    refine Wp.region ?_
    refine s_mv rfl rfl ?_
    refine s_nc rfl rfl ?_
    refine s_fa (o2 := 2) rfl rfl rfl ?_
    refine s_ld rfl rfl (by rfl) ?_
    refine s_as rfl rfl ?_
    refine s_as rfl rfl ?_
    refine WpL.nil ?_
    refine Wp.ret ?_
    apply RetQ.mk
    · exact (Res.two rfl rfl rfl)
    · exact ⟨by rw [if_pos (Classical.not_not.1 h0), if_pos (Classical.not_not.1 h0)], rfl⟩
    · first | exact Ent.refl _ | exact Ent.nil _ | exact Take.ent' (by repeat' constructor) | (repeat (first | exact Ent.refl _ | refine Ent.drop ?_))

theorem tkNew_spec (most : Int) : Fn Tryz.prog 191 #[.int .i64 most] [] (fun v l => ∃ g, v = .pointer (some ⟨g, 0, none⟩) ∧ l = [blk g [nxV g 0, .int .i64 most, .int .i64 0, .bool false, .int .i64 0, .int .i64 9] 265]) := by
  refine Fn.intro (vs := [.int .i64 most]) Tryz.func191 rfl Tryz.ntmps191 rfl ?_
  refine Wp.seq ?_
  refine Wp.region ?_
  refine s_as rfl rfl ?_
  refine WpL.nil ?_
  refine Wp.seq ?_
  refine Wp.region ?_
  refine s_mv rfl rfl ?_
  refine s_bd rfl rfl ?_
  refine s_box rfl rfl rfl ?_
  intro g1
  refine s_as rfl rfl ?_
  refine WpL.nil ?_
  refine Wp.seq ?_
  refine Wp.region ?_
  refine s_mv rfl rfl ?_
  refine s_mv rfl rfl ?_
  refine s_mkfb rfl rfl rfl ?_
  refine s_nc rfl rfl ?_
  refine s_fa (o2 := 0) rfl rfl rfl ?_
  refine s_st rfl rfl rfl ?_
  refine WpL.nil ?_
  refine Wp.seq ?_
  refine Wp.region ?_
  refine s_mv rfl rfl ?_
  refine s_as rfl rfl ?_
  refine WpL.nil ?_
  refine Wp.ret ?_
  apply RetQ.mk
  · exact (Res.one rfl rfl)
  · exact ⟨_, rfl, rfl⟩
  · first | exact Ent.refl _ | exact Ent.nil _ | exact Take.ent' (by repeat' constructor) | (repeat (first | exact Ent.refl _ | refine Ent.drop ?_))

end Go.Proofs.YtggamdlpiejbiaaGreat
