/- Walks and plain laws, a part of the proof of ImageCuts: every input that the law's guards let in, no condition beside. -/
import Derived.Test.YtggamdlpiejbiaaGreatM20
namespace Go.Proofs.YtggamdlpiejbiaaGreat
open Go.RowKit Go.Shelf

/-- A number's reader, fed until it ends. -/
def Xh (most : Int) : TS → List Int → Int → TS × Int × Int
  | t, [], n => (t, 0, n)
  | t, c :: bs, n => if (QG most t c).2 ≠ 0 then ((QG most t c).1, (QG most t c).2, n + 1) else Xh most (QG most t c).1 bs (n + 1)
/-- What a head's reader is when its number ended so. -/
def XX (s : HS) (t : TS) (k : Int) : HS :=
  if k = 0 then { s with t := t, last := 0 } else
  if k = 2 then { s with t := t, last := 2, e := t.e } else
  if t.n = 0 then { s with t := t, last := 2, e := 4 } else
  if (XM (X9 s t.n)).i < 3 then { XM (X9 s t.n) with t := X5, last := 0 } else { XM (X9 s t.n) with t := t, last := 1, e := 0 }
theorem hdNum_done (l0 l1 l2 : Int) (s : HS) (c : Int) : XI l0 l1 l2 s c = XX s (QG (Q6 l0 l1 l2 s.i) s.t c).1 (QG (Q6 l0 l1 l2 s.i) s.t c).2 := rfl
theorem numRun_len (most : Int) : ∀ (bs : List Int) (t : TS) (n : Int), n ≤ (Xh most t bs n).2.2 ∧ (Xh most t bs n).2.2 ≤ n + bs.length
  | [], t, n => by simp [Xh]
  | c :: bs, t, n => by
    rw [Xh]
    simp only [List.length_cons]
    split
    · simp only; omega
    · have := numRun_len most bs (QG most t c).1 (n + 1)
      omega
theorem hdRun_num (l0 l1 l2 K W H M i e : Int) : ∀ (bs : List Int) (t : TS) (n : Int),
    Xj l0 l1 l2 ⟨K, W, H, M, 3, i, t, 0, e⟩ bs n =
      if (XX ⟨K, W, H, M, 3, i, t, 0, e⟩ (Xh (Q6 l0 l1 l2 i) t bs n).1 (Xh (Q6 l0 l1 l2 i) t bs n).2.1).last = 0 ∧ (Xh (Q6 l0 l1 l2 i) t bs n).2.1 ≠ 0
      then Xj l0 l1 l2 (XX ⟨K, W, H, M, 3, i, t, 0, e⟩ (Xh (Q6 l0 l1 l2 i) t bs n).1 (Xh (Q6 l0 l1 l2 i) t bs n).2.1) (bs.drop ((Xh (Q6 l0 l1 l2 i) t bs n).2.2 - n).toNat) (Xh (Q6 l0 l1 l2 i) t bs n).2.2
      else (XX ⟨K, W, H, M, 3, i, t, 0, e⟩ (Xh (Q6 l0 l1 l2 i) t bs n).1 (Xh (Q6 l0 l1 l2 i) t bs n).2.1, (Xh (Q6 l0 l1 l2 i) t bs n).2.2)
  | [], t, n => by simp [Xh, Xj, XX]
  | c :: bs, t, n => by
    have hp : Xa l0 l1 l2 ⟨K, W, H, M, 3, i, t, 0, e⟩ c = XX ⟨K, W, H, M, 3, i, t, 0, e⟩ (QG (Q6 l0 l1 l2 i) t c).1 (QG (Q6 l0 l1 l2 i) t c).2 := by
      unfold Xa
      rw [if_neg (by simp), if_neg (by simp), hdNum_done]
    rw [Xj, hp]
    by_cases h0 : (QG (Q6 l0 l1 l2 i) t c).2 = 0
    · have hn : Xh (Q6 l0 l1 l2 i) t (c :: bs) n = Xh (Q6 l0 l1 l2 i) (QG (Q6 l0 l1 l2 i) t c).1 bs (n + 1) := by
        rw [Xh, if_neg (fun h => h h0)]
      have hd : XX ⟨K, W, H, M, 3, i, t, 0, e⟩ (QG (Q6 l0 l1 l2 i) t c).1 (QG (Q6 l0 l1 l2 i) t c).2 = ⟨K, W, H, M, 3, i, (QG (Q6 l0 l1 l2 i) t c).1, 0, e⟩ := by
        unfold XX; rw [if_pos h0]
      have hx : ∀ t2 k, XX ⟨K, W, H, M, 3, i, (QG (Q6 l0 l1 l2 i) t c).1, 0, e⟩ t2 k = XX ⟨K, W, H, M, 3, i, t, 0, e⟩ t2 k := fun t2 k => by
        unfold XX X9 XM; repeat' split
        all_goals rfl
      have ih := hdRun_num l0 l1 l2 K W H M i e bs (QG (Q6 l0 l1 l2 i) t c).1 (n + 1)
      have hl := numRun_len (Q6 l0 l1 l2 i) bs (QG (Q6 l0 l1 l2 i) t c).1 (n + 1)
      rw [hd, if_neg (by simp), hn, ih]
      simp only [hx]
      rw [show ((Xh (Q6 l0 l1 l2 i) (QG (Q6 l0 l1 l2 i) t c).1 bs (n + 1)).2.2 - n).toNat = ((Xh (Q6 l0 l1 l2 i) (QG (Q6 l0 l1 l2 i) t c).1 bs (n + 1)).2.2 - (n + 1)).toNat + 1 by omega]
      rfl
    · have hn : Xh (Q6 l0 l1 l2 i) t (c :: bs) n = ((QG (Q6 l0 l1 l2 i) t c).1, (QG (Q6 l0 l1 l2 i) t c).2, n + 1) := by
        rw [Xh, if_pos h0]
      rw [hn]
      simp only
      by_cases hl : (XX ⟨K, W, H, M, 3, i, t, 0, e⟩ (QG (Q6 l0 l1 l2 i) t c).1 (QG (Q6 l0 l1 l2 i) t c).2).last = 0
      · rw [if_neg (by simpa using hl), if_pos ⟨hl, h0⟩, show (n + 1 - n).toNat = 1 by omega]
        rfl
      · rw [if_pos (by simpa using hl), if_neg (fun h => hl h.1)]
/-- What is told of a head's reader at the end. -/
def Zj (r : HS × Int) (len : Int) : (Int × Int × Int × Int) × Int × Int :=
  if r.1.last = 1 then ((r.1.K, r.1.W, r.1.H, r.1.M), r.2, 0) else if r.1.last = 2 then ((0, 0, 0, 0), r.2, r.1.e) else ((0, 0, 0, 0), len, 6)
theorem Y2 (l0 l1 l2 : Int) (bs : List Int) : XW l0 l1 l2 bs = Zj (Xj l0 l1 l2 hd0 bs 0) bs.length := rfl
theorem hdP_0 (l0 l1 l2 : Int) {c : Int} {bs : List Int} (h : c ≠ 80) : XW l0 l1 l2 (c :: bs) = ((0, 0, 0, 0), 1, 2) := by
  have : Xa l0 l1 l2 hd0 c = { hd0 with at_ := 1, last := 2, e := 2 } := by
    unfold Xa Xr hd0; simp [h]
  rw [Y2, Xj, this]; simp [hd0, Zj]
theorem hdP_1 (l0 l1 l2 : Int) {c d : Int} {bs : List Int} (h : c = 80) (h2 : d < 49 ∨ 54 < d) : XW l0 l1 l2 (c :: d :: bs) = ((0, 0, 0, 0), 2, 2) := by
  have e1 : Xa l0 l1 l2 hd0 c = { hd0 with at_ := 1 } := by unfold Xa Xr hd0; simp [h]
  have e2 : Xa l0 l1 l2 { hd0 with at_ := 1 } d = { hd0 with at_ := 2, last := 2, e := 2 } := by unfold Xa Xr hd0; simp [h2]
  rw [Y2, Xj, e1, if_neg (by simp [hd0]), Xj, e2]; simp [hd0, Zj]
theorem hdP_2 (l0 l1 l2 : Int) {c d e : Int} {bs : List Int} (h : c = 80) (h2 : 49 ≤ d ∧ d ≤ 54) (h3 : Xc e = false ∧ e ≠ 35) : XW l0 l1 l2 (c :: d :: e :: bs) = ((0, 0, 0, 0), 3, 3) := by
  have e1 : Xa l0 l1 l2 hd0 c = { hd0 with at_ := 1 } := by unfold Xa Xr hd0; simp [h]
  have e2 : Xa l0 l1 l2 { hd0 with at_ := 1 } d = { hd0 with at_ := 2, K := d - 48 } := by
    have : ¬ (d < 49 ∨ 54 < d) := by omega
    unfold Xa Xr hd0; simp [this]
  have e3 : Xa l0 l1 l2 { hd0 with at_ := 2, K := d - 48 } e = { hd0 with at_ := 3, K := d - 48, last := 2, e := 3 } := by unfold Xa Xr hd0; simp [h3]
  rw [Y2, Xj, e1, if_neg (by simp [hd0]), Xj, e2, if_neg (by simp [hd0]), Xj, e3]; simp [hd0, Zj]
theorem hdP_s0 (l0 l1 l2 : Int) : XW l0 l1 l2 [] = ((0, 0, 0, 0), 0, 6) := by simp [Y2, Xj, hd0, Zj]
theorem hdP_s1 (l0 l1 l2 : Int) {c : Int} (h : c = 80) : XW l0 l1 l2 [c] = ((0, 0, 0, 0), 1, 6) := by
  have e1 : Xa l0 l1 l2 hd0 c = { hd0 with at_ := 1 } := by unfold Xa Xr hd0; simp [h]
  rw [Y2, Xj, e1, if_neg (by simp [hd0]), Xj]; simp [hd0, Zj]
theorem hdP_s2 (l0 l1 l2 : Int) {c d : Int} (h : c = 80) (h2 : 49 ≤ d ∧ d ≤ 54) : XW l0 l1 l2 [c, d] = ((0, 0, 0, 0), 2, 6) := by
  have e1 : Xa l0 l1 l2 hd0 c = { hd0 with at_ := 1 } := by unfold Xa Xr hd0; simp [h]
  have e2 : Xa l0 l1 l2 { hd0 with at_ := 1 } d = { hd0 with at_ := 2, K := d - 48 } := by
    have : ¬ (d < 49 ∨ 54 < d) := by omega
    unfold Xa Xr hd0; simp [this]
  rw [Y2, Xj, e1, if_neg (by simp [hd0]), Xj, e2, if_neg (by simp [hd0]), Xj]; simp [hd0, Zj]
/-- A head, from its third byte on. -/
def hdFrom (l0 l1 l2 K W H M i : Int) (bs : List Int) (at_ : Nat) : (Int × Int × Int × Int) × Int × Int := Zj (Xj l0 l1 l2 ⟨K, W, H, M, 3, i, X5, 0, 9⟩ (bs.drop at_) at_) bs.length
theorem hdP_3 (l0 l1 l2 : Int) {c d e : Int} {bs : List Int} (_hl : 1 ≤ l0) (h : c = 80) (h2 : 49 ≤ d ∧ d ≤ 54) (h3 : Xc e = true ∨ e = 35) : XW l0 l1 l2 (c :: d :: e :: bs) = hdFrom l0 l1 l2 (d - 48) 0 0 0 0 (c :: d :: e :: bs) 2 := by
  have e1 : Xa l0 l1 l2 hd0 c = { hd0 with at_ := 1 } := by unfold Xa Xr hd0; simp [h]
  have e2 : Xa l0 l1 l2 { hd0 with at_ := 1 } d = { hd0 with at_ := 2, K := d - 48 } := by
    have : ¬ (d < 49 ∨ 54 < d) := by omega
    unfold Xa Xr hd0; simp [this]
  have h3' : ¬ (Xc e = false ∧ e ≠ 35) := by rintro ⟨h4, h5⟩; rcases h3 with h3 | h3 <;> simp_all
  have e3 : Xa l0 l1 l2 { hd0 with at_ := 2, K := d - 48 } e = { hd0 with at_ := 3, K := d - 48, t := (QG l0 X5 e).1 } := by unfold Xa Xr hd0; simp [h3']
  have hs : (QG l0 X5 e).2 = 0 := by
    unfold QG X5
    dsimp only
    rw [if_neg (by decide), if_neg (by decide), if_neg (by decide), if_neg (by decide)]
    by_cases h5 : e = 35
    · rw [if_pos h5]
    · rw [if_neg h5, if_pos (h3.resolve_right h5), if_pos rfl]
  have e4 : Xa l0 l1 l2 ⟨d - 48, 0, 0, 0, 3, 0, X5, 0, 9⟩ e = { hd0 with at_ := 3, K := d - 48, t := (QG l0 X5 e).1 } := by
    unfold Xa
    rw [if_neg (by simp), if_neg (by simp), hdNum_done]
    simp only [Q6, if_pos]
    unfold XX
    rw [if_pos hs]; rfl
  unfold hdFrom
  rw [Y2, Xj, e1, if_neg (by simp [hd0]), Xj, e2, if_neg (by simp [hd0]), Xj, e3]
  simp only [List.drop_succ_cons, List.drop_zero]
  rw [Xj, e4]
  rfl
structure Evt where
  (k c m w h : Int) (row : List Int)
inductive Bd | no | pl (s : RS) | rw (s : RW)
structure PS where
  (hd : Option HS) (ph : Int) (bd : Bd) (told imgs : Int) (over : Bool) (e : Int)
def rowE (row : List Int) : List Evt := if row = [] then [] else [⟨2, 0, 0, 0, 0, row⟩]
def doneE (st : Int) : List Evt := if st = 1 then [⟨3, 0, 0, 0, 0, []⟩] else []
/-- What a raster's reader told, made events. -/
def Zl (s : PS) (bd : Bd) (st e : Int) (row : List Int) : PS × List Evt :=
  (if st = 2 then { s with bd := bd, e := e } else if st = 1 then { s with bd := .no, ph := 0, imgs := s.imgs + 1 } else { s with bd := bd }, rowE row ++ doneE st)
def rw0 (h : HS) : RW := ⟨List.replicate (QE h.K h.W.toNat (Qg h.M)) 0, 0, 0, 0, 0⟩
def bd0 (h : HS) : Bd := if 4 ≤ h.K ∧ h.K ≤ 6 then .rw (rw0 h) else .pl s0R
def Z4 (s : PS) (h : HS) : PS × List Evt :=
  if h.last = 0 then ({ s with hd := some h, ph := 1 }, []) else
  if h.e ≠ 0 then ({ s with hd := some h, ph := 1, e := h.e }, []) else
  ({ s with hd := some h, ph := 2, bd := bd0 h }, [⟨1, QR h.K, h.M, h.W, h.H, []⟩])
def psBody (s : PS) (h : HS) (c : Int) : PS × List Evt :=
  match s.bd with
  | .no => (s, [])
  | .pl r => Zl s (.pl (XP h.K h.W h.H h.M r c).1) (XP h.K h.W h.H h.M r c).1.last (XP h.K h.W h.H h.M r c).1.e (XP h.K h.W h.H h.M r c).2
  | .rw r => Zl s (.rw (XK h.K h.W.toNat h.H h.M r c).1) (XK h.K h.W.toNat h.H h.M r c).1.last (XK h.K h.W.toNat h.H h.M r c).1.e (XK h.K h.W.toNat h.H h.M r c).2
/-- A byte. -/
def psStep (l0 l1 l2 : Int) (s : PS) (c : Int) : PS × List Evt :=
  if s.ph = 0 then (if Xc c = true then (s, []) else Z4 s (Xa l0 l1 l2 hd0 c)) else
  if s.ph = 1 then Z4 s (Xa l0 l1 l2 (s.hd.getD hd0) c) else psBody s (s.hd.getD hd0) c
def Zm (l0 l1 l2 : Int) (s : PS) (c : Int) : PS × List Evt :=
  if s.over = true ∨ s.e ≠ 0 then (s, []) else psStep l0 l1 l2 { s with told := s.told + 1 } c
/-- The end. -/
def psEnd (s : PS) : PS × List Evt :=
  if s.over = true ∨ s.e ≠ 0 then (s, []) else
  match s.bd with
  | .pl r => Zl { s with over := true } (.pl (Vv (s.hd.getD hd0).K (s.hd.getD hd0).W (s.hd.getD hd0).H r).1) (Vv (s.hd.getD hd0).K (s.hd.getD hd0).W (s.hd.getD hd0).H r).1.last (Vv (s.hd.getD hd0).K (s.hd.getD hd0).W (s.hd.getD hd0).H r).1.e (Vv (s.hd.getD hd0).K (s.hd.getD hd0).W (s.hd.getD hd0).H r).2
  | .rw _ => ({ s with over := true, e := 6 }, [])
  | .no => if s.hd.isSome = true ∧ (s.hd.getD hd0).e = 9 then ({ s with over := true, e := 6 }, []) else ({ s with over := true }, [])
def hdJ (l0 l1 l2 : Int) (h : HS) : Prop := hdI h ∧ h.e = 9 ∧ (2 ≤ h.at_ → 1 ≤ h.K ∧ h.K ≤ 6) ∧ (1 ≤ h.i → 1 ≤ h.W ∧ h.W ≤ l0) ∧ (2 ≤ h.i → 1 ≤ h.H ∧ h.H ≤ l1 ∧ ¬ X3 h.K) ∧ (h.at_ = 3 → YI (Q6 l0 l1 l2 h.i) h.t)
theorem hdJ0 (l0 l1 l2 : Int) : hdJ l0 l1 l2 hd0 := by unfold hdJ hdI hd0; simp
structure LimO (l0 l1 l2 : Int) : Prop where
  a : 1 ≤ l0 ∧ l0 ≤ 4096
  b : 1 ≤ l1 ∧ l1 ≤ 65536
  c : 1 ≤ l2 ∧ l2 ≤ 65535
def Vt (h : HS) : Prop := h.last = 1 ∧ h.e = 0 ∧ XG h.K h.W h.H h.M
def HdBad (h : HS) : Prop := h.last = 2 ∧ 2 ≤ h.e ∧ h.e ≤ 4
theorem hdMagic_ok {l0 l1 l2 : Int} {h : HS} {c : Int} (hL : LimO l0 l1 l2) (hj : hdJ l0 l1 l2 h) (h3 : h.at_ < 3) : hdJ l0 l1 l2 (Xr l0 h c) ∨ HdBad (Xr l0 h c) := by
  obtain ⟨K, W, H, M, at_, i, t, last, e⟩ := h
  obtain ⟨⟨j1, j2, j3, j4, j5, j6⟩, j7, j8, j9, j10, j11⟩ := hj
  dsimp only at *
  have hi := j6 h3
  subst hi
  subst j1
  subst j7
  unfold Xr
  dsimp only
  split
  · exact .inr ⟨rfl, (by dsimp only; omega), (by dsimp only; omega)⟩
  · rename_i q1
    split
    · refine .inl ⟨⟨rfl, ?_, ?_, ?_, ?_, ?_⟩, rfl, ?_, ?_, ?_, ?_⟩ <;> dsimp only <;> omega
    · split
      · split
        · exact .inr ⟨rfl, (by dsimp only; omega), (by dsimp only; omega)⟩
        · rename_i q2 q3
          have hc : Xc c = true ∨ c = 35 := by
            by_cases hc : c = 35
            · exact .inr hc
            · left; cases hb : Xc c with
              | true => rfl
              | false => exact absurd ⟨hb, hc⟩ q3
          have := tk0_soft (l0 := l0) hL.a.1 hc
          refine .inl ⟨⟨rfl, ?_, ?_, ?_, ?_, ?_⟩, rfl, ?_, ?_, ?_, ?_⟩ <;> dsimp only
          all_goals first | omega | exact fun _ => this.2
      · refine .inl ⟨⟨rfl, ?_, ?_, ?_, ?_, ?_⟩, rfl, ?_, ?_, ?_, ?_⟩ <;> dsimp only <;> omega
theorem hdNum_ok {l0 l1 l2 : Int} {h : HS} {c : Int} (hL : LimO l0 l1 l2) (hj : hdJ l0 l1 l2 h) (h3 : h.at_ = 3) : hdJ l0 l1 l2 (XI l0 l1 l2 h c) ∨ HdBad (XI l0 l1 l2 h c) ∨ Vt (XI l0 l1 l2 h c) := by
  obtain ⟨K, W, H, M, at_, i, t, last, e⟩ := h
  obtain ⟨⟨j1, j2, j3, j4, j5, j6⟩, j7, j8, j9, j10, j11⟩ := hj
  dsimp only at *
  subst h3
  subst j1
  subst j7
  obtain ⟨a1, a2⟩ := hL.a
  obtain ⟨b1, b2⟩ := hL.b
  obtain ⟨d1, d2⟩ := hL.c
  have h8 := j8 (by decide)
  have hok := j11 rfl
  have hcs := YS (c := c) hok
  unfold XI
  dsimp only
  generalize hq : QG (Q6 l0 l1 l2 i) t c = q at hcs
  obtain ⟨t', k⟩ := q
  dsimp only at hcs ⊢
  rcases hcs with ⟨rfl, h1⟩ | ⟨rfl, h1, h2, h4, h5⟩ | ⟨rfl, h1, h2, h4⟩
  · rw [if_pos rfl]
    exact .inl ⟨⟨rfl, j2, j3, j4, j5, j6⟩, rfl, j8, j9, j10, fun _ => h1⟩
  · rw [if_neg (by decide), if_neg (by decide)]
    by_cases hn : t'.n = 0
    · rw [if_pos hn]; exact .inr (.inl ⟨rfl, (by dsimp only; omega), (by dsimp only; omega)⟩)
    · rw [if_neg hn]
      have h0 : ∀ m, 1 ≤ m → YI m X5 := fun m hm => by unfold YI X5; dsimp only; omega
      obtain rfl | rfl | rfl : i = 0 ∨ i = 1 ∨ i = 2 := by omega
      · have hl : Q6 l0 l1 l2 0 = l0 := rfl
        rw [hl] at h5
        simp only [X9, XM, if_pos, show ¬ ((0 : Int) + 1 = 2 ∧ X3 K) from fun h => absurd h.1 (by decide), if_false, show (0 : Int) + 1 < 3 from by decide]
        exact .inl ⟨⟨rfl, j2, j3, (by dsimp only; omega), (by dsimp only; omega), fun h => absurd h (by dsimp only; omega)⟩, rfl, j8, fun _ => ⟨by dsimp only; omega, h5⟩, fun h => absurd h (by dsimp only; omega), fun _ => h0 _ b1⟩
      · have hl : Q6 l0 l1 l2 1 = l1 := rfl
        rw [hl] at h5
        have h9 := j9 (by decide)
        by_cases hb : X3 K
        · simp only [X9, XM, show ¬ ((1 : Int) = 0) from by decide, if_false, if_true, show ((1 : Int) + 1 = 2 ∧ X3 K) from ⟨by decide, hb⟩, show ¬ (3 : Int) < 3 from by decide, and_self]
          refine .inr (.inr ⟨rfl, rfl, ?_⟩)
          unfold XG; dsimp only; omega
        · simp only [X9, XM, show ¬ ((1 : Int) = 0) from by decide, if_false, if_true, show ¬ ((1 : Int) + 1 = 2 ∧ X3 K) from fun h => hb h.2, show (1 : Int) + 1 < 3 from by decide]
          exact .inl ⟨⟨rfl, j2, j3, (by dsimp only; omega), (by dsimp only; omega), fun h => absurd h (by dsimp only; omega)⟩, rfl, j8, fun _ => h9, fun _ => ⟨by dsimp only; omega, h5, hb⟩, fun _ => h0 _ d1⟩
      · have hl : Q6 l0 l1 l2 2 = l2 := rfl
        rw [hl] at h5
        have h9 := j9 (by decide)
        have h10 := j10 (by decide)
        simp only [X9, XM, show ¬ ((2 : Int) = 0) from by decide, show ¬ ((2 : Int) = 1) from by decide, if_false, show ¬ ((2 : Int) + 1 = 2 ∧ X3 K) from fun h => absurd h.1 (by decide), show ¬ (2 : Int) + 1 < 3 from by decide]
        refine .inr (.inr ⟨rfl, rfl, ?_⟩)
        have hb := h10.2.2
        unfold X3 at hb
        unfold XG; dsimp only; omega
  · rw [if_neg (by decide), if_pos rfl]
    exact .inr (.inl ⟨rfl, by dsimp only; omega, by dsimp only; omega⟩)
theorem hdPut_ok {l0 l1 l2 : Int} {h : HS} {c : Int} (hL : LimO l0 l1 l2) (hj : hdJ l0 l1 l2 h) : hdJ l0 l1 l2 (Xa l0 l1 l2 h c) ∨ HdBad (Xa l0 l1 l2 h c) ∨ Vt (Xa l0 l1 l2 h c) := by
  unfold Xa
  rw [if_neg (fun q => q hj.1.1)]
  split
  · rename_i h3
    rcases hdMagic_ok (c := c) hL hj h3 with h | h
    · exact .inl h
    · exact .inr (.inl h)
  · exact hdNum_ok hL hj (by have := hj.1.2.2.1; omega)

end Go.Proofs.YtggamdlpiejbiaaGreat
namespace Go.Proofs.YtggamdlpiejbiaaGreat
open Go.RowKit Go.Shelf


/-- A head's reader, as one part. -/
def hdR (g : Nat) (l0 l1 l2 : Int) (h : HS) : HP := exs fun p : Value × HP => [QK g [.int .i64 h.K, .int .i64 h.W, .int .i64 h.H, .int .i64 h.M, .int .i64 l0, .int .i64 l1, .int .i64 l2, .int .i64 h.at_, .int .i64 h.i, p.1, .int .i64 h.last, .int .i64 h.e] 234, p.2, pur (h.last = 0 → hdT l0 l1 l2 h p.1 p.2)]


theorem hdPut_rep (g : Nat) (l0 l1 l2 : Int) (h : HS) (c : Int) (hc0 : 0 ≤ c) (hc1 : c ≤ 255) (hL : LimO l0 l1 l2) (hj : hdJ l0 l1 l2 h) :
    Fn Tryz.prog 123 #[.pointer (some ⟨g, 0, none⟩), .int .u8 c] [hdR g l0 l1 l2 h] (fun v l => v = .int .i64 (Xa l0 l1 l2 h c).last ∧ l = [hdR g l0 l1 l2 (Xa l0 l1 l2 h c)]) := by
  refine Fn.exs fun ⟨pt, A⟩ => ?_
  refine (Fn.pur (F := [QK g [.int .i64 h.K, .int .i64 h.W, .int .i64 h.H, .int .i64 h.M, .int .i64 l0, .int .i64 l1, .int .i64 l2, .int .i64 h.at_, .int .i64 h.i, pt, .int .i64 h.last, .int .i64 h.e] 234, A]) fun hT => ?_).pre (Take.ent' (by repeat' constructor))
  have hl0 := hj.1.1
  rw [hl0]
  have := hdPut_spec g l0 l1 l2 h pt A c hc0 hc1 ⟨hL.a, hL.b, hL.c⟩ hj.1 (hT hl0)
  refine this.mono ?_
  rintro v l ⟨s', pt', A', rfl, rfl, hok, rfl⟩
  exact ⟨_, ⟨rfl, rfl⟩, Ent.exs (pt', A') ((Ent.pur (fun q => (hok q).2) (Ent.refl _)).trans (Ent.swap.trans (Ent.cons Ent.swap)))⟩
theorem hdHead_rep (g : Nat) (l0 l1 l2 : Int) (h : HS) : Fn Tryz.prog 116 #[.pointer (some ⟨g, 0, none⟩)] [hdR g l0 l1 l2 h] (fun v l => v = (if h.e = 0 then .tuple #[.agg #[.int .i64 h.K, .int .i64 h.W, .int .i64 h.H, .int .i64 h.M], .int .i64 0] else .tuple #[.agg #[.int .i64 0, .int .i64 0, .int .i64 0, .int .i64 0], .int .i64 h.e]) ∧ l = [hdR g l0 l1 l2 h]) := by
  refine Fn.exs fun ⟨pt, A⟩ => ?_
  have hf : Fn Tryz.prog 116 #[.pointer (some ⟨g, 0, none⟩)] [QK g [.int .i64 h.K, .int .i64 h.W, .int .i64 h.H, .int .i64 h.M, .int .i64 l0, .int .i64 l1, .int .i64 l2, .int .i64 h.at_, .int .i64 h.i, pt, .int .i64 h.last, .int .i64 h.e] 234, A, pur (h.last = 0 → hdT l0 l1 l2 h pt A)] (fun v l => v = (if h.e = 0 then .tuple #[.agg #[.int .i64 h.K, .int .i64 h.W, .int .i64 h.H, .int .i64 h.M], .int .i64 0] else .tuple #[.agg #[.int .i64 0, .int .i64 0, .int .i64 0, .int .i64 0], .int .i64 h.e]) ∧ l = [QK g [.int .i64 h.K, .int .i64 h.W, .int .i64 h.H, .int .i64 h.M, .int .i64 l0, .int .i64 l1, .int .i64 l2, .int .i64 h.at_, .int .i64 h.i, pt, .int .i64 h.last, .int .i64 h.e] 234, A, pur (h.last = 0 → hdT l0 l1 l2 h pt A)]) := by
    refine Fn.frm (F := [A, pur (h.last = 0 → hdT l0 l1 l2 h pt A)]) (m := [QK g [.int .i64 h.K, .int .i64 h.W, .int .i64 h.H, .int .i64 h.M, .int .i64 l0, .int .i64 l1, .int .i64 l2, .int .i64 h.at_, .int .i64 h.i, pt, .int .i64 h.last, .int .i64 h.e] 234]) (R := fun v => v = (if h.e = 0 then .tuple #[.agg #[.int .i64 h.K, .int .i64 h.W, .int .i64 h.H, .int .i64 h.M], .int .i64 0] else .tuple #[.agg #[.int .i64 0, .int .i64 0, .int .i64 0, .int .i64 0], .int .i64 h.e])) ((hdHead_spec g h.K h.W h.H h.M l0 l1 l2 h.at_ h.i h.last h.e pt).mono ?_)
    rintro v l ⟨hv, rfl⟩
    refine ⟨_, ⟨?_, rfl⟩, Ent.refl _⟩
    rcases hv with ⟨h0, rfl⟩ | ⟨h0, rfl⟩
    · rw [if_neg h0]
    · rw [if_pos h0]
  refine hf.mono ?_
  rintro v l ⟨rfl, rfl⟩
  exact ⟨_, ⟨rfl, rfl⟩, Ent.exs (pt, A) (Ent.refl _)⟩
theorem hdHead_alt (g : Nat) (l0 l1 l2 : Int) (h : HS) : Fn Tryz.prog 116 #[.pointer (some ⟨g, 0, none⟩)] [hdR g l0 l1 l2 h] (fun v l => (h.e ≠ 0 ∧ v = .tuple #[.agg #[.int .i64 0, .int .i64 0, .int .i64 0, .int .i64 0], .int .i64 h.e] ∧ l = [hdR g l0 l1 l2 h]) ∨ (h.e = 0 ∧ v = .tuple #[.agg #[.int .i64 h.K, .int .i64 h.W, .int .i64 h.H, .int .i64 h.M], .int .i64 0] ∧ l = [hdR g l0 l1 l2 h])) := by
  refine (hdHead_rep g l0 l1 l2 h).mono ?_
  rintro v l ⟨rfl, rfl⟩
  refine ⟨_, ?_, Ent.refl _⟩
  by_cases h0 : h.e = 0
  · rw [if_pos h0]; exact .inr ⟨h0, rfl, rfl⟩
  · rw [if_neg h0]; exact .inl ⟨h0, rfl, rfl⟩
theorem hdNew_rep (a b d : Int) : Fn Tryz.prog 112 #[.agg #[.int .i64 a, .int .i64 b, .int .i64 d]] [] (fun v l => ∃ g, v = .pointer (some ⟨g, 0, none⟩) ∧ l = [hdR g (min (max a 1) 4096) (min (max b 1) 65536) (min (max d 1) 65535) hd0]) := by
  refine (hdNew_spec a b d).mono ?_
  rintro v l ⟨g, rfl, rfl⟩
  refine ⟨_, ⟨g, rfl, rfl⟩, Ent.exs (.pointer none, emp) ?_⟩
  have hT : hd0.last = 0 → hdT (min (max a 1) 4096) (min (max b 1) 65536) (min (max d 1) 65535) hd0 (.pointer none) emp := fun _ => .inl ⟨by decide, rfl, rfl⟩
  refine (Ent.pur hT (Zg (Ent.refl _))).trans ?_
  exact Take.ent' (by repeat' constructor)

end Go.Proofs.YtggamdlpiejbiaaGreat
namespace Go.Proofs.YtggamdlpiejbiaaGreat
open Go.RowKit Go.Shelf


def QS (a : Int) : Int := min (max a 1) 4096
def QT (a : Int) : Int := min (max a 1) 65536
def QU (a : Int) : Int := min (max a 1) 65535
theorem lim_o (a b d : Int) : LimO (QS a) (QT b) (QU d) := ⟨by unfold QS; omega, by unfold QT; omega, by unfold QU; omega⟩
end Go.Proofs.YtggamdlpiejbiaaGreat
namespace Go.Proofs.YtggamdlpiejbiaaGreat
open Go.RowKit Go.Shelf

theorem Y5  : Fn Tryz.prog 21 #[] [] (fun v l => v = .agg #[.int .i64 4096, .int .i64 65536, .int .i64 65535] ∧ l = []) := by
 refine Ql (vs := []) Tryz.func21 rfl Tryz.ntmps21 rfl (Qb (Qa (XH rfl ?_)))
 intro g1
 refine WpL.nil (Qb (Qa ?_))
 refine Xu rfl rfl ?_
 refine QC rfl rfl rfl (by rfl) rfl ?_
 refine WpL.nil (Qh ?_)
 apply RetQ.mk
 ·exact (XC rfl rfl (by rfl))
 ·exact ⟨rfl, rfl⟩
 ·exact Ent.nil _

end Go.Proofs.YtggamdlpiejbiaaGreat
namespace Go.Proofs.YtggamdlpiejbiaaGreat
open Go.RowKit Go.Shelf

/-- A head that is parsed, number by number: how it stands at the number i. -/
def parI (l0 l1 l2 K : Int) (bs : List Int) (i at_ : Nat) (W H M : Int) : Prop :=
  XW l0 l1 l2 bs = if i = 3 ∨ (i = 2 ∧ X3 K) then ((K, W, H, M), (at_ : Int), 0) else hdFrom l0 l1 l2 K W H 0 i bs at_
theorem XS {l0 l1 l2 K W H M : Int} {bs : List Int} {i at_ : Nat} (h : parI l0 l1 l2 K bs i at_ W H M) (hi : i < 3) (hb : X3 K → i < 2 ∧ M = 1) {t : TS} {k at' : Int} (hr : Xh (Q6 l0 l1 l2 i) X5 (bs.drop at_) at_ = (t, k, at')) :
    (k = 0 → XW l0 l1 l2 bs = (((0, 0, 0, 0), ((bs.length : Nat) : Int), 6) : (Int × Int × Int × Int) × Int × Int)) ∧ (k = 2 → XW l0 l1 l2 bs = ((0, 0, 0, 0), at', t.e)) ∧ (k ≠ 0 → k ≠ 2 → t.n = 0 → XW l0 l1 l2 bs = ((0, 0, 0, 0), at', 4)) ∧
    (k ≠ 0 → k ≠ 2 → t.n ≠ 0 → parI l0 l1 l2 K bs (i + 1) at'.toNat (if i = 0 then t.n else W) (if i = 1 then t.n else H) (if i = 2 then t.n else M)) := by
  have hnd : ¬ (i = 3 ∨ (i = 2 ∧ X3 K)) := fun q => by rcases q with q | ⟨q, q2⟩; omega; have := hb q2; omega
  unfold parI at h
  rw [if_neg hnd] at h
  unfold hdFrom at h
  rw [hdRun_num, hr] at h
  dsimp only at h
  have hlen := numRun_len (Q6 l0 l1 l2 i) (bs.drop at_) X5 at_
  rw [hr] at hlen
  dsimp only at hlen
  refine ⟨fun hk => ?_, fun hk => ?_, fun hk hk2 hn => ?_, fun hk hk2 hn => ?_⟩
  · subst hk
    rw [if_neg (fun q => q.2 rfl)] at h
    rw [h]; simp [XX, Zj]
  · subst hk
    have hd : XX ⟨K, W, H, 0, 3, i, X5, 0, 9⟩ t 2 = ⟨K, W, H, 0, 3, i, t, 2, t.e⟩ := by unfold XX; rw [if_neg (by decide), if_pos rfl]
    rw [hd, if_neg (by simp)] at h
    rw [h]; simp [Zj]
  · have hd : XX ⟨K, W, H, 0, 3, i, X5, 0, 9⟩ t k = ⟨K, W, H, 0, 3, i, t, 2, 4⟩ := by unfold XX; rw [if_neg hk, if_neg hk2, if_pos hn]
    rw [hd, if_neg (by simp)] at h
    rw [h]; simp [Zj]
  · have hdr : (bs.drop at_).drop (at' - at_).toNat = bs.drop at'.toNat := by
      rw [List.drop_drop]; congr 1; omega
    unfold parI
    obtain rfl | rfl | rfl : i = 0 ∨ i = 1 ∨ i = 2 := by omega
    · have hd : XX ⟨K, W, H, 0, 3, ((0 : Nat) : Int), X5, 0, 9⟩ t k = ⟨K, t.n, H, 0, 3, 1, X5, 0, 9⟩ := by
        unfold XX; rw [if_neg hk, if_neg hk2, if_neg hn]; rfl
      rw [hd, if_pos ⟨rfl, hk⟩, hdr] at h
      rw [h, if_neg (by omega)]
      unfold hdFrom
      have e : ((at'.toNat : Nat) : Int) = at' := by omega
      rw [e]; rfl
    · by_cases hbk : X3 K
      · have hd : XX ⟨K, W, H, 0, 3, ((1 : Nat) : Int), X5, 0, 9⟩ t k = ⟨K, W, t.n, 1, 3, 3, t, 1, 0⟩ := by
          unfold XX; rw [if_neg hk, if_neg hk2, if_neg hn]
          have e2 : XM (X9 ⟨K, W, H, 0, 3, ((1 : Nat) : Int), X5, 0, 9⟩ t.n) = ⟨K, W, t.n, 1, 3, 3, X5, 0, 9⟩ := by
            have e1 : X9 ⟨K, W, H, 0, 3, ((1 : Nat) : Int), X5, 0, 9⟩ t.n = ⟨K, W, t.n, 0, 3, 1, X5, 0, 9⟩ := rfl
            rw [e1]; unfold XM; exact if_pos ⟨rfl, hbk⟩
          rw [e2]; rfl
        rw [hd, if_neg (by simp)] at h
        rw [h, if_pos (.inr ⟨rfl, hbk⟩)]
        have hM := (hb hbk).2
        subst hM
        have e : ((at'.toNat : Nat) : Int) = at' := by omega
        simp [Zj, e]
      · have hd : XX ⟨K, W, H, 0, 3, ((1 : Nat) : Int), X5, 0, 9⟩ t k = ⟨K, W, t.n, 0, 3, 2, X5, 0, 9⟩ := by
          unfold XX; rw [if_neg hk, if_neg hk2, if_neg hn]
          have e2 : XM (X9 ⟨K, W, H, 0, 3, ((1 : Nat) : Int), X5, 0, 9⟩ t.n) = ⟨K, W, t.n, 0, 3, 2, X5, 0, 9⟩ := by
            have e1 : X9 ⟨K, W, H, 0, 3, ((1 : Nat) : Int), X5, 0, 9⟩ t.n = ⟨K, W, t.n, 0, 3, 1, X5, 0, 9⟩ := rfl
            rw [e1]; unfold XM; exact if_neg (fun q => hbk q.2)
          rw [e2]; rfl
        rw [hd, if_pos ⟨rfl, hk⟩, hdr] at h
        rw [h, if_neg (fun q => by rcases q with q | q; omega; exact hbk q.2)]
        unfold hdFrom
        have e : ((at'.toNat : Nat) : Int) = at' := by omega
        rw [e]; rfl
    · have hd : XX ⟨K, W, H, 0, 3, ((2 : Nat) : Int), X5, 0, 9⟩ t k = ⟨K, W, H, t.n, 3, 3, t, 1, 0⟩ := by
        unfold XX; rw [if_neg hk, if_neg hk2, if_neg hn]; rfl
      rw [hd, if_neg (by simp)] at h
      rw [h, if_pos (.inl rfl)]
      have e : ((at'.toNat : Nat) : Int) = at' := by omega
      simp [Zj, e]

theorem Z6 (most : Int) : Fn Tryz.prog 103 #[.int .i64 most] [] (fun v l => v = .agg #[.int .i64 0, .int .i64 0, .int .i64 most, .int .i64 9] ∧ l = []) := by
 refine Ql (vs := [.int .i64 most]) Tryz.func103 rfl Tryz.ntmps103 rfl (Qb (Qa (XH rfl ?_)))
 intro g1
 refine WpL.nil (Qb (Qa (Qc rfl rfl ?_)))
 refine Xu rfl rfl ?_
 refine QC rfl rfl rfl (by rfl) rfl ?_
 refine WpL.nil (Qh ?_)
 apply RetQ.mk
 ·exact (XC rfl rfl (by rfl))
 ·exact ⟨rfl, rfl⟩
 ·exact Ent.nil _

theorem Z7 (ph n most e c : Int) (hc0 : 0 ≤ c) (hc1 : c ≤ 255) (hn0 : 0 ≤ n) (hm0 : 0 ≤ most) (hm1 : most ≤ 1000000) (hph : 0 ≤ ph ∧ ph ≤ 5) : Fn Tryz.prog 104 #[.agg #[.int .i64 ph, .int .i64 n, .int .i64 most, .int .i64 e], .int .u8 c] [] (fun v l => v = .tuple #[.agg #[.int .i64 (QG most ⟨ph, n, e⟩ c).1.ph, .int .i64 (QG most ⟨ph, n, e⟩ c).1.n, .int .i64 most, .int .i64 (QG most ⟨ph, n, e⟩ c).1.e], .int .i64 (QG most ⟨ph, n, e⟩ c).2] ∧ l = []) := by
 refine Ql (vs := [.agg #[.int .i64 ph, .int .i64 n, .int .i64 most, .int .i64 e], .int .u8 c]) Tryz.func104 rfl Tryz.ntmps104 rfl (Qb (Qa (Q2 rfl rfl rfl ?_)))
 intro g1
 refine XH rfl ?_
 intro g2
 refine Qd rfl rfl (WpL.nil (Qb (Qb (Qa (Qk (o2 := 0) rfl rfl rfl (Qn rfl rfl (by rfl) ?_))))))
 refine QH rfl rfl rfl (WpL.nil (Qj rfl (fun h0 => ?_) (fun h0 => ?_)))
 ·refine Qb (Qa ?_)
  refine Qw (vs := [_, _, _, _]) rfl rfl rfl (by rfl) ?_
  refine QC rfl rfl rfl (by rfl) rfl ?_
  refine Qd rfl rfl (WpL.nil (Qh ?_))
  apply RetQ.mk
  ·exact (QI rfl rfl (by rfl) rfl)
  ·refine ⟨?_, rfl⟩
   unfold QG eol
   dsimp only
   repeat' split
   all_goals rfl
  ·exact Ent.nil _
 ·refine Wp.skip (Qb (Qb (Qa (Qk (o2 := 0) rfl rfl rfl (Qn rfl rfl (by rfl) ?_)))))
  refine QH rfl rfl rfl (WpL.nil (Qj rfl (fun h1 => ?_) (fun h1 => ?_)))
  ·refine Qb (Qa ?_)
   refine Qw (vs := [_, _, _, _]) rfl rfl rfl (by rfl) ?_
   refine QC rfl rfl rfl (by rfl) rfl ?_
   refine Qd rfl rfl (WpL.nil (Qh ?_))
   apply RetQ.mk
   ·exact (QI rfl rfl (by rfl) rfl)
   ·refine ⟨?_, rfl⟩
    unfold QG eol
    dsimp only
    repeat' split
    all_goals first | rfl | (exfalso; omega)
   ·exact Ent.nil _
  ·refine Wp.skip (Qb (Qa (Qc rfl rfl (QH rfl rfl rfl (Qc rfl rfl (QN rfl rfl rfl (fun hg1 => ?_) (fun hg1 => ?_)))))))
   ·have hg1 := of_decide_eq_false hg1
    refine Qc rfl rfl (Qf rfl rfl (QH rfl rfl rfl (Qt rfl rfl rfl (Qd rfl rfl (WpL.nil (Qb (Qb (Qa (Qk (o2 := 0) rfl rfl rfl (Qn rfl rfl (by rfl) ?_))))))))))
    refine QH rfl rfl rfl (WpL.nil (Qj rfl (fun h2 => ?_) (fun h2 => ?_)))
    ·refine Qb (Qb (Qa (Qc rfl rfl (WpL.nil (Qj rfl (fun h3 => ?_) (fun h3 => ?_))))))
     ·refine Qa (Qk (o2 := 0) rfl rfl rfl (QV rfl rfl rfl (WpL.nil (Qb (Qa ?_)))))
      refine Qw (vs := [_, _, _, _]) rfl rfl rfl (by rfl) ?_
      refine QC rfl rfl rfl (by rfl) rfl ?_
      refine Qd rfl rfl (WpL.nil (Qh ?_))
      apply RetQ.mk
      ·exact (QI rfl rfl (by rfl) rfl)
      ·refine ⟨?_, rfl⟩
       unfold QG eol
       dsimp only
       repeat' split
       all_goals first | (exfalso; omega) | (simp_all; done)
      ·exact Ent.nil _
     ·refine Wp.skip (Qb (Qa ?_))
      refine Qw (vs := [_, _, _, _]) rfl rfl rfl (by rfl) ?_
      refine QC rfl rfl rfl (by rfl) rfl ?_
      refine Qd rfl rfl (WpL.nil (Qh ?_))
      apply RetQ.mk
      ·exact (QI rfl rfl (by rfl) rfl)
      ·refine ⟨?_, rfl⟩
       unfold QG eol
       dsimp only
       repeat' split
       all_goals first | (exfalso; omega) | (simp_all; done)
      ·exact Ent.nil _
    ·refine Wp.skip (Qb (Qb (Qa (Qk (o2 := 0) rfl rfl rfl (Qn rfl rfl (by rfl) ?_)))))
     refine QH rfl rfl rfl (WpL.nil (Qj rfl (fun h4 => ?_) (fun h4 => ?_)))
     ·refine Qb (Qb (Qa (Qc rfl rfl (WpL.nil (Qj rfl (fun h5 => ?_) (fun h5 => ?_))))))
      ·refine Qb (Qa (Qk (o2 := 0) rfl rfl rfl (QV rfl rfl rfl (WpL.nil (Qb (Qa (Qk (o2 := 3) rfl rfl rfl (QV rfl rfl rfl (WpL.nil (Qb (Qa ?_)))))))))))
       refine Qw (vs := [_, _, _, _]) rfl rfl rfl (by rfl) ?_
       refine QC rfl rfl rfl (by rfl) rfl ?_
       refine Qd rfl rfl (WpL.nil (Qh ?_))
       apply RetQ.mk
       ·exact (QI rfl rfl (by rfl) rfl)
       ·refine ⟨?_, rfl⟩
        unfold QG eol
        dsimp only
        repeat' split
        all_goals first | (exfalso; omega) | (simp_all; done)
       ·exact Ent.nil _
      ·refine Wp.skip (Qb (Qa ?_))
       refine Qw (vs := [_, _, _, _]) rfl rfl rfl (by rfl) ?_
       refine QC rfl rfl rfl (by rfl) rfl ?_
       refine Qd rfl rfl (WpL.nil (Qh ?_))
       apply RetQ.mk
       ·exact (QI rfl rfl (by rfl) rfl)
       ·refine ⟨?_, rfl⟩
        unfold QG eol
        dsimp only
        repeat' split
        all_goals first | (exfalso; omega) | (simp_all; done)
       ·exact Ent.nil _
     ·refine Wp.skip (Qb (Qb (Qa (Qc rfl rfl (QH rfl rfl rfl (WpL.nil (Qj rfl (fun h6 => ?_) (fun h6 => ?_))))))))
      ·refine Qb (Qa (Qk (o2 := 0) rfl rfl rfl (Qn rfl rfl (by rfl) ?_)))
       refine QA rfl rfl rfl (Qo (by omega) (by omega)) ?_
       refine Qk (o2 := 0) rfl rfl rfl (QV rfl rfl rfl (WpL.nil (Qb (Qa ?_))))
       refine Qw (vs := [_, _, _, _]) rfl rfl rfl (by rfl) ?_
       refine QC rfl rfl rfl (by rfl) rfl ?_
       refine Qd rfl rfl (WpL.nil (Qh ?_))
       apply RetQ.mk
       ·exact (QI rfl rfl (by rfl) rfl)
       ·refine ⟨?_, rfl⟩
        unfold QG eol
        dsimp only
        repeat' split
        all_goals first | rfl | (exfalso; omega)
       ·exact Ent.nil _
      ·refine Wp.skip (Qb (Qb (Qa (Qc rfl rfl (Qi rfl rfl (by repeat' constructor) (Yd _) ?_)))))
       rintro _ _ ⟨rfl, rfl⟩
       simp only [Qs]
       refine Qc rfl rfl (QN rfl rfl rfl (fun hg2 => ?_) (fun hg2 => ?_))
       ·refine Qk (o2 := 0) rfl rfl rfl (Qf rfl rfl (Qn rfl rfl (by rfl) ?_))
        refine Qf rfl rfl (QH rfl rfl rfl (Qr rfl rfl rfl (WpL.nil (Qj rfl (fun h7 => ?_) (fun h7 => ?_)))))
        ·refine Qb (Qa ?_)
         refine Qw (vs := [_, _, _, _]) rfl rfl rfl (by rfl) ?_
         refine QC rfl rfl rfl (by rfl) rfl ?_
         refine Qd rfl rfl (WpL.nil (Qh ?_))
         apply RetQ.mk
         ·exact (QI rfl rfl (by rfl) rfl)
         ·refine ⟨?_, rfl⟩
          unfold QG eol
          dsimp only
          repeat' split
          all_goals first | rfl | (exfalso; omega)
         ·exact Ent.nil _
        ·refine Wp.skip (Qb (Qb (Qa (Qc rfl rfl (Qi rfl rfl (by repeat' constructor) (Yd _) ?_)))))
         rintro _ _ ⟨rfl, rfl⟩
         simp only [Qs]
         refine WpL.nil (XZ rfl (fun h8 => ?_) (fun h8 => ?_))
         ·refine Qb (Qa (Qk (o2 := 0) rfl rfl rfl (QV rfl rfl rfl (WpL.nil (Qb (Qa (Qk (o2 := 3) rfl rfl rfl (QV rfl rfl rfl (WpL.nil (Qb (Qa ?_)))))))))))
          refine Qw (vs := [_, _, _, _]) rfl rfl rfl (by rfl) ?_
          refine QC rfl rfl rfl (by rfl) rfl ?_
          refine Qd rfl rfl (WpL.nil (Qh ?_))
          apply RetQ.mk
          ·exact (QI rfl rfl (by rfl) rfl)
          ·refine ⟨?_, rfl⟩
           unfold QG eol
           dsimp only
           repeat' split
           all_goals first | rfl | (exfalso; omega)
          ·exact Ent.nil _
         ·refine Wp.skip (Qb (Qa (Qk (o2 := 1) rfl rfl rfl (Qn rfl rfl (by rfl) ?_))))
          refine Qc rfl rfl (Qk (o2 := 2) rfl rfl rfl (Qn rfl rfl (by rfl) ?_))
          refine Qi rfl rfl (by repeat' constructor) (ZQ _ _ _ hc0 hc1 hn0 hm0 (by omega)) ?_
          rintro _ _ ⟨rfl, rfl⟩
          simp only [Qs]
          refine Qc rfl rfl (QB rfl rfl rfl (QB rfl rfl rfl (Qd rfl rfl (Qd rfl rfl (WpL.nil (Qb (Qb (Qa (Qc rfl rfl (Xq rfl rfl rfl (WpL.nil (Qj rfl (fun h9 => ?_) (fun h9 => ?_)))))))))))))
          ·refine Qb (Qa (Qk (o2 := 2) rfl rfl rfl (Qn rfl rfl (by rfl) ?_)))
           refine Qc rfl rfl ?_
           refine Xu rfl rfl ?_
           refine QC rfl rfl rfl (by rfl) rfl ?_
           refine Qd rfl rfl (WpL.nil (Qh ?_))
           apply RetQ.mk
           ·exact (QI rfl rfl (by rfl) rfl)
           ·refine ⟨?_, rfl⟩
            unfold QG eol
            dsimp only
            repeat' split
            all_goals first | (exfalso; omega) | (exfalso; simp_all; done)
           ·exact Ent.nil _
          ·refine Wp.skip (Qb (Qa (Qc rfl rfl (Qk (o2 := 1) rfl rfl rfl (QV rfl rfl rfl (WpL.nil (Qb (Qa (Qk (o2 := 0) rfl rfl rfl (QV rfl rfl rfl (WpL.nil (Qb ?_))))))))))))
           refine Qa ?_
           refine Qw (vs := [_, _, _, _]) rfl rfl rfl (by rfl) ?_
           refine QC rfl rfl rfl (by rfl) rfl ?_
           refine Qd rfl rfl (WpL.nil (Qh ?_))
           apply RetQ.mk
           ·exact (QI rfl rfl (by rfl) rfl)
           ·refine ⟨?_, rfl⟩
            unfold QG eol
            dsimp only
            repeat' split
            all_goals first | (exfalso; omega) | (exfalso; simp_all; done)
           ·exact Ent.nil _
       ·refine Qe rfl rfl rfl (by decide) (Qe rfl rfl rfl (by decide) (Qt rfl rfl rfl (WpL.nil (QW rfl (Wp.skip (Qb (Qb (Qa (Qc rfl rfl (Qi rfl rfl (by repeat' constructor) (Yd _) ?_))))))))))
        rintro _ _ ⟨rfl, rfl⟩
        simp only [Qs]
        refine WpL.nil (XZ rfl (fun h8 => ?_) (fun h8 => ?_))
        ·refine Qb (Qa (Qk (o2 := 0) rfl rfl rfl (QV rfl rfl rfl (WpL.nil (Qb (Qa (Qk (o2 := 3) rfl rfl rfl (QV rfl rfl rfl (WpL.nil (Qb (Qa ?_)))))))))))
         refine Qw (vs := [_, _, _, _]) rfl rfl rfl (by rfl) ?_
         refine QC rfl rfl rfl (by rfl) rfl ?_
         refine Qd rfl rfl (WpL.nil (Qh ?_))
         apply RetQ.mk
         ·exact (QI rfl rfl (by rfl) rfl)
         ·refine ⟨?_, rfl⟩
          unfold QG eol
          dsimp only
          repeat' split
          all_goals first | rfl | (exfalso; omega) | (exfalso; simp_all; done)
         ·exact Ent.nil _
        ·refine Wp.skip (Qb (Qa (Qk (o2 := 1) rfl rfl rfl (Qn rfl rfl (by rfl) ?_))))
         refine Qc rfl rfl (Qk (o2 := 2) rfl rfl rfl (Qn rfl rfl (by rfl) ?_))
         refine Qi rfl rfl (by repeat' constructor) (ZQ _ _ _ hc0 hc1 hn0 hm0 (by omega)) ?_
         rintro _ _ ⟨rfl, rfl⟩
         simp only [Qs]
         refine Qc rfl rfl (QB rfl rfl rfl (QB rfl rfl rfl (Qd rfl rfl (Qd rfl rfl (WpL.nil (Qb (Qb (Qa (Qc rfl rfl (Xq rfl rfl rfl (WpL.nil (Qj rfl (fun h9 => ?_) (fun h9 => ?_)))))))))))))
         ·refine Qb (Qa (Qk (o2 := 2) rfl rfl rfl (Qn rfl rfl (by rfl) ?_)))
          refine Qc rfl rfl ?_
          refine Xu rfl rfl ?_
          refine QC rfl rfl rfl (by rfl) rfl ?_
          refine Qd rfl rfl (WpL.nil (Qh ?_))
          apply RetQ.mk
          ·exact (QI rfl rfl (by rfl) rfl)
          ·refine ⟨?_, rfl⟩
           unfold QG eol
           dsimp only
           repeat' split
           all_goals first | rfl | (exfalso; omega) | (exfalso; simp_all; done)
          ·exact Ent.nil _
         ·refine Wp.skip (Qb (Qa (Qc rfl rfl (Qk (o2 := 1) rfl rfl rfl (QV rfl rfl rfl (WpL.nil (Qb (Qa (Qk (o2 := 0) rfl rfl rfl (QV rfl rfl rfl (WpL.nil (Qb ?_))))))))))))
          refine Qa ?_
          refine Qw (vs := [_, _, _, _]) rfl rfl rfl (by rfl) ?_
          refine QC rfl rfl rfl (by rfl) rfl ?_
          refine Qd rfl rfl (WpL.nil (Qh ?_))
          apply RetQ.mk
          ·exact (QI rfl rfl (by rfl) rfl)
          ·refine ⟨?_, rfl⟩
           unfold QG eol
           dsimp only
           repeat' split
           all_goals first | rfl | (exfalso; omega) | (exfalso; simp_all; done)
          ·exact Ent.nil _
   ·have hg1 := of_decide_eq_true hg1
    refine Qe rfl rfl rfl (by decide) (Qr rfl rfl rfl (Qd rfl rfl (WpL.nil (Qb (Qb (Qa (Qk (o2 := 0) rfl rfl rfl (Qn rfl rfl (by rfl) ?_))))))))
    refine QH rfl rfl rfl (WpL.nil (Qj rfl (fun h2 => ?_) (fun h2 => ?_)))
    ·refine Qb (Qb (Qa (Qc rfl rfl (WpL.nil (Xn rfl (Qa (Qk (o2 := 0) rfl rfl rfl (QV rfl rfl rfl (WpL.nil (Qb (Qa ?_)))))))))))
     refine Qw (vs := [_, _, _, _]) rfl rfl rfl (by rfl) ?_
     refine QC rfl rfl rfl (by rfl) rfl ?_
     refine Qd rfl rfl (WpL.nil (Qh ?_))
     apply RetQ.mk
     ·exact (QI rfl rfl (by rfl) rfl)
     ·refine ⟨?_, rfl⟩
      unfold QG eol
      dsimp only
      repeat' split
      all_goals first | (exfalso; omega) | (simp_all; done)
     ·exact Ent.nil _
    ·refine Wp.skip (Qb (Qb (Qa (Qk (o2 := 0) rfl rfl rfl (Qn rfl rfl (by rfl) ?_)))))
     refine QH rfl rfl rfl (WpL.nil (Qj rfl (fun h4 => ?_) (fun h4 => ?_)))
     ·refine Qb (Qb (Qa (Qc rfl rfl (WpL.nil (Xn rfl (Qb (Qa (Qk (o2 := 0) rfl rfl rfl (QV rfl rfl rfl (WpL.nil (Qb (Qa ?_))))))))))))
      refine Qk (o2 := 3) rfl rfl rfl (QV rfl rfl rfl (WpL.nil (Qb (Qa ?_))))
      refine Qw (vs := [_, _, _, _]) rfl rfl rfl (by rfl) ?_
      refine QC rfl rfl rfl (by rfl) rfl ?_
      refine Qd rfl rfl (WpL.nil (Qh ?_))
      apply RetQ.mk
      ·exact (QI rfl rfl (by rfl) rfl)
      ·refine ⟨?_, rfl⟩
       unfold QG eol
       dsimp only
       repeat' split
       all_goals first | (exfalso; omega) | (simp_all; done)
      ·exact Ent.nil _
     ·refine Wp.skip (Qb (Qb (Qa (Qc rfl rfl (QH rfl rfl rfl (WpL.nil (Qj rfl (fun h6 => ?_) (fun h6 => ?_))))))))
      ·refine Qb (Qa (Qk (o2 := 0) rfl rfl rfl (Qn rfl rfl (by rfl) ?_)))
       refine QA rfl rfl rfl (Qo (by omega) (by omega)) ?_
       refine Qk (o2 := 0) rfl rfl rfl (QV rfl rfl rfl (WpL.nil (Qb (Qa ?_))))
       refine Qw (vs := [_, _, _, _]) rfl rfl rfl (by rfl) ?_
       refine QC rfl rfl rfl (by rfl) rfl ?_
       refine Qd rfl rfl (WpL.nil (Qh ?_))
       apply RetQ.mk
       ·exact (QI rfl rfl (by rfl) rfl)
       ·refine ⟨?_, rfl⟩
        unfold QG eol
        dsimp only
        repeat' split
        all_goals first | rfl | (exfalso; omega)
       ·exact Ent.nil _
      ·refine Wp.skip (Qb (Qb (Qa (Qc rfl rfl (Qi rfl rfl (by repeat' constructor) (Yd _) ?_)))))
       rintro _ _ ⟨rfl, rfl⟩
       simp only [Qs]
       refine Qc rfl rfl (QN rfl rfl rfl (fun hg3 => ?_) (fun hg3 => ?_))
       ·refine Qk (o2 := 0) rfl rfl rfl (Qf rfl rfl (Qn rfl rfl (by rfl) ?_))
        refine Qf rfl rfl (QH rfl rfl rfl (Qr rfl rfl rfl (WpL.nil (Qj rfl (fun h7 => ?_) (fun h7 => ?_)))))
        ·refine Qb (Qa ?_)
         refine Qw (vs := [_, _, _, _]) rfl rfl rfl (by rfl) ?_
         refine QC rfl rfl rfl (by rfl) rfl ?_
         refine Qd rfl rfl (WpL.nil (Qh ?_))
         apply RetQ.mk
         ·exact (QI rfl rfl (by rfl) rfl)
         ·refine ⟨?_, rfl⟩
          unfold QG eol
          dsimp only
          repeat' split
          all_goals first | rfl | (exfalso; omega)
         ·exact Ent.nil _
        ·refine Wp.skip (Qb (Qb (Qa (Qc rfl rfl (Qi rfl rfl (by repeat' constructor) (Yd _) ?_)))))
         rintro _ _ ⟨rfl, rfl⟩
         simp only [Qs]
         refine WpL.nil (XZ rfl (fun h8 => ?_) (fun h8 => ?_))
         ·refine Qb (Qa (Qk (o2 := 0) rfl rfl rfl (QV rfl rfl rfl (WpL.nil (Qb (Qa (Qk (o2 := 3) rfl rfl rfl (QV rfl rfl rfl (WpL.nil (Qb (Qa ?_)))))))))))
          refine Qw (vs := [_, _, _, _]) rfl rfl rfl (by rfl) ?_
          refine QC rfl rfl rfl (by rfl) rfl ?_
          refine Qd rfl rfl (WpL.nil (Qh ?_))
          apply RetQ.mk
          ·exact (QI rfl rfl (by rfl) rfl)
          ·refine ⟨?_, rfl⟩
           unfold QG eol
           dsimp only
           repeat' split
           all_goals first | rfl | (exfalso; omega)
          ·exact Ent.nil _
         ·refine Wp.skip (Qb (Qa (Qk (o2 := 1) rfl rfl rfl (Qn rfl rfl (by rfl) ?_))))
          refine Qc rfl rfl (Qk (o2 := 2) rfl rfl rfl (Qn rfl rfl (by rfl) ?_))
          refine Qi rfl rfl (by repeat' constructor) (ZQ _ _ _ hc0 hc1 hn0 hm0 (by omega)) ?_
          rintro _ _ ⟨rfl, rfl⟩
          simp only [Qs]
          refine Qc rfl rfl (QB rfl rfl rfl (QB rfl rfl rfl (Qd rfl rfl (Qd rfl rfl (WpL.nil (Qb (Qb (Qa (Qc rfl rfl (Xq rfl rfl rfl (WpL.nil (Qj rfl (fun h9 => ?_) (fun h9 => ?_)))))))))))))
          ·refine Qb (Qa (Qk (o2 := 2) rfl rfl rfl (Qn rfl rfl (by rfl) ?_)))
           refine Qc rfl rfl ?_
           refine Xu rfl rfl ?_
           refine QC rfl rfl rfl (by rfl) rfl ?_
           refine Qd rfl rfl (WpL.nil (Qh ?_))
           apply RetQ.mk
           ·exact (QI rfl rfl (by rfl) rfl)
           ·refine ⟨?_, rfl⟩
            unfold QG eol
            dsimp only
            repeat' split
            all_goals first | (exfalso; omega) | (exfalso; simp_all; done)
           ·exact Ent.nil _
          ·refine Wp.skip (Qb (Qa (Qc rfl rfl (Qk (o2 := 1) rfl rfl rfl (QV rfl rfl rfl (WpL.nil (Qb (Qa (Qk (o2 := 0) rfl rfl rfl (QV rfl rfl rfl (WpL.nil (Qb ?_))))))))))))
           refine Qa ?_
           refine Qw (vs := [_, _, _, _]) rfl rfl rfl (by rfl) ?_
           refine QC rfl rfl rfl (by rfl) rfl ?_
           refine Qd rfl rfl (WpL.nil (Qh ?_))
           apply RetQ.mk
           ·exact (QI rfl rfl (by rfl) rfl)
           ·refine ⟨?_, rfl⟩
            unfold QG eol
            dsimp only
            repeat' split
            all_goals first | (exfalso; omega) | (exfalso; simp_all; done)
           ·exact Ent.nil _
       ·refine Qe rfl rfl rfl (by decide) (Qe rfl rfl rfl (by decide) (Qt rfl rfl rfl (WpL.nil (QW rfl (Wp.skip (Qb (Qb (Qa (Qc rfl rfl (Qi rfl rfl (by repeat' constructor) (Yd _) ?_))))))))))
        rintro _ _ ⟨rfl, rfl⟩
        simp only [Qs]
        refine WpL.nil (XZ rfl (fun h8 => ?_) (fun h8 => ?_))
        ·refine Qb (Qa (Qk (o2 := 0) rfl rfl rfl (QV rfl rfl rfl (WpL.nil (Qb (Qa (Qk (o2 := 3) rfl rfl rfl (QV rfl rfl rfl (WpL.nil (Qb (Qa ?_)))))))))))
         refine Qw (vs := [_, _, _, _]) rfl rfl rfl (by rfl) ?_
         refine QC rfl rfl rfl (by rfl) rfl ?_
         refine Qd rfl rfl (WpL.nil (Qh ?_))
         apply RetQ.mk
         ·exact (QI rfl rfl (by rfl) rfl)
         ·refine ⟨?_, rfl⟩
          unfold QG eol
          dsimp only
          repeat' split
          all_goals first | rfl | (exfalso; omega) | (exfalso; simp_all; done)
         ·exact Ent.nil _
        ·refine Wp.skip (Qb (Qa (Qk (o2 := 1) rfl rfl rfl (Qn rfl rfl (by rfl) ?_))))
         refine Qc rfl rfl (Qk (o2 := 2) rfl rfl rfl (Qn rfl rfl (by rfl) ?_))
         refine Qi rfl rfl (by repeat' constructor) (ZQ _ _ _ hc0 hc1 hn0 hm0 (by omega)) ?_
         rintro _ _ ⟨rfl, rfl⟩
         simp only [Qs]
         refine Qc rfl rfl (QB rfl rfl rfl (QB rfl rfl rfl (Qd rfl rfl (Qd rfl rfl (WpL.nil (Qb (Qb (Qa (Qc rfl rfl (Xq rfl rfl rfl (WpL.nil (Qj rfl (fun h9 => ?_) (fun h9 => ?_)))))))))))))
         ·refine Qb (Qa (Qk (o2 := 2) rfl rfl rfl (Qn rfl rfl (by rfl) ?_)))
          refine Qc rfl rfl ?_
          refine Xu rfl rfl ?_
          refine QC rfl rfl rfl (by rfl) rfl ?_
          refine Qd rfl rfl (WpL.nil (Qh ?_))
          apply RetQ.mk
          ·exact (QI rfl rfl (by rfl) rfl)
          ·refine ⟨?_, rfl⟩
           unfold QG eol
           dsimp only
           repeat' split
           all_goals first | rfl | (exfalso; omega) | (exfalso; simp_all; done)
          ·exact Ent.nil _
         ·refine Wp.skip (Qb (Qa (Qc rfl rfl (Qk (o2 := 1) rfl rfl rfl (QV rfl rfl rfl (WpL.nil (Qb (Qa (Qk (o2 := 0) rfl rfl rfl (QV rfl rfl rfl (WpL.nil (Qb ?_))))))))))))
          refine Qa ?_
          refine Qw (vs := [_, _, _, _]) rfl rfl rfl (by rfl) ?_
          refine QC rfl rfl rfl (by rfl) rfl ?_
          refine Qd rfl rfl (WpL.nil (Qh ?_))
          apply RetQ.mk
          ·exact (QI rfl rfl (by rfl) rfl)
          ·refine ⟨?_, rfl⟩
           unfold QG eol
           dsimp only
           repeat' split
           all_goals first | rfl | (exfalso; omega) | (exfalso; simp_all; done)
          ·exact Ent.nil _

end Go.Proofs.YtggamdlpiejbiaaGreat
