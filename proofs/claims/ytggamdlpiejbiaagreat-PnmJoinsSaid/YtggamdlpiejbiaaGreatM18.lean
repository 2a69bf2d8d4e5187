/- Walks and plain laws, a part of the proof of PnmJoins: every input that the law's guards let in, no condition beside. -/
import Derived.Test.YtggamdlpiejbiaaGreatM17
namespace Go.Proofs.YtggamdlpiejbiaaGreat
open Go.RowKit Go.Shelf


theorem RawWrite_spec (A0 : HP) (a0 : Option Addr) (c0 : Nat) (px : List Int) (hA : RdsL [A0] a0 (Xp px)) (hr : ∀ p ∈ px, 0 ≤ p ∧ p < 18446744073709551616) (hc : px.length ≤ c0) (K : Int) (W Hn : Nat) (M : Int) (hR : RawH K (W : Int) (Hn : Int) M) (hpl : px.length = W * Hn) (hfit : ∀ p ∈ px, Yp p (QW K) M) : Fn Tryz.prog 91 #[.slice a0 px.length c0, .agg #[.int .i64 K, .int .i64 (W : Int), .int .i64 (Hn : Int), .int .i64 M]] [A0] (fun v l => ∃ a c, v = .tuple #[.slice a (Xg K W (Qg M) px Hn).length c, .int .i64 0] ∧ (Xg K W (Qg M) px Hn).length ≤ c ∧ l = [QG 5 1 a c (Xg K W (Qg M) px Hn).length (Xr (Xg K W (Qg M) px Hn)), A0]) := by
  by_cases h4 : K = 4
  · exact RawWrite_a A0 a0 c0 px hA hr hc K W Hn M hR hpl hfit h4
  · by_cases hM : M ≤ 255
    · exact RawWrite_b A0 a0 c0 px hA hr hc K W Hn M hR hpl hfit h4 hM
    · exact RawWrite_c A0 a0 c0 px hA hr hc K W Hn M hR hpl hfit h4 hM
theorem wrRaw_bd {K M : Int} {W : Nat} {px : List Int} {n : Nat} (hM : 1 ≤ M ∧ M ≤ 65535) (h4 : K = 4 → M = 1) (hc : ∀ p ∈ px, Can (QW K) M p) : ∀ b ∈ Xg K W (Qg M) px n, 0 ≤ b ∧ b ≤ 255 := by
  intro b hb
  obtain ⟨r, hr, hb⟩ := List.mem_flatten.1 hb
  obtain ⟨y, _, rfl⟩ := List.mem_map.1 hr
  have hs : ∀ x ∈ ((px.drop (y * W)).take W).flatMap Qn, 0 ≤ x ∧ x ≤ M := fun x hx => by
    obtain ⟨p, hp, hx⟩ := List.mem_flatMap.1 hx
    exact (hc p (List.mem_of_mem_drop (List.mem_of_mem_take hp))).2.2 x hx
  unfold Y5 at hb
  split at hb
  · rename_i hK
    have := h4 hK
    exact packB_bd (fun x hx => by have := hs x hx; unfold Zt; omega) b hb
  · refine enc_bd (fun x hx => by have := hs x hx; omega) (fun hw x hx => ?_) b hb
    have := hs x hx
    unfold Qg at hw
    split at hw
    · cases hw
    · omega
end Go.Proofs.YtggamdlpiejbiaaGreat
namespace Go.Proofs.YtggamdlpiejbiaaGreat
open Go.RowKit Go.Shelf

/-- What is told of a head's reader at the end. -/
def hdFin (r : HS × Int) (len : Int) : (Int × Int × Int × Int) × Int × Int :=
  if r.1.last = 1 then ((r.1.K, r.1.W, r.1.H, r.1.M), r.2, 0) else if r.1.last = 2 then ((0, 0, 0, 0), r.2, r.1.e) else ((0, 0, 0, 0), len, 6)
theorem hdP_fin (l0 l1 l2 : Int) (bs : List Int) : hdP l0 l1 l2 bs = hdFin (Xl l0 l1 l2 hd0 bs 0) bs.length := rfl
structure Evt where
  (k c m w h : Int) (row : List Int)
inductive Bd | no | pl (s : RS) | rw (s : RW)
structure PS where
  (hd : Option HS) (ph : Int) (bd : Bd) (told imgs : Int) (over : Bool) (e : Int)
def ps0 : PS := ⟨none, 0, .no, 0, 0, false, 0⟩
def XC (row : List Int) : List Evt := if row = [] then [] else [⟨2, 0, 0, 0, 0, row⟩]
def Xq (st : Int) : List Evt := if st = 1 then [⟨3, 0, 0, 0, 0, []⟩] else []
/-- What a raster's reader told, made events. -/
def Xm (s : PS) (bd : Bd) (st e : Int) (row : List Int) : PS × List Evt :=
  (if st = 2 then { s with bd := bd, e := e } else if st = 1 then { s with bd := .no, ph := 0, imgs := s.imgs + 1 } else { s with bd := bd }, XC row ++ Xq st)
def rw0 (h : HS) : RW := ⟨List.replicate (QF h.K h.W.toNat (Qg h.M)) 0, 0, 0, 0, 0⟩
def bd0 (h : HS) : Bd := if 4 ≤ h.K ∧ h.K ≤ 6 then .rw (rw0 h) else .pl s0R
def Q8 (s : PS) (h : HS) : PS × List Evt :=
  if h.last = 0 then ({ s with hd := some h, ph := 1 }, []) else
  if h.e ≠ 0 then ({ s with hd := some h, ph := 1, e := h.e }, []) else
  ({ s with hd := some h, ph := 2, bd := bd0 h }, [⟨1, QW h.K, h.M, h.W, h.H, []⟩])
def psBody (s : PS) (h : HS) (c : Int) : PS × List Evt :=
  match s.bd with
  | .no => (s, [])
  | .pl r => Xm s (.pl (XH h.K h.W h.H h.M r c).1) (XH h.K h.W h.H h.M r c).1.last (XH h.K h.W h.H h.M r c).1.e (XH h.K h.W h.H h.M r c).2
  | .rw r => Xm s (.rw (Xj h.K h.W.toNat h.H h.M r c).1) (Xj h.K h.W.toNat h.H h.M r c).1.last (Xj h.K h.W.toNat h.H h.M r c).1.e (Xj h.K h.W.toNat h.H h.M r c).2
/-- A byte. -/
def Xt (l0 l1 l2 : Int) (s : PS) (c : Int) : PS × List Evt :=
  if s.ph = 0 then (if Q6 c = true then (s, []) else Q8 s (Q1 l0 l1 l2 hd0 c)) else
  if s.ph = 1 then Q8 s (Q1 l0 l1 l2 (s.hd.getD hd0) c) else psBody s (s.hd.getD hd0) c
def Xf (l0 l1 l2 : Int) (s : PS) (c : Int) : PS × List Evt :=
  if s.over = true ∨ s.e ≠ 0 then (s, []) else Xt l0 l1 l2 { s with told := s.told + 1 } c
/-- The end. -/
def XV (s : PS) : PS × List Evt :=
  if s.over = true ∨ s.e ≠ 0 then (s, []) else
  match s.bd with
  | .pl r => Xm { s with over := true } (.pl (Yd (s.hd.getD hd0).K (s.hd.getD hd0).W (s.hd.getD hd0).H r).1) (Yd (s.hd.getD hd0).K (s.hd.getD hd0).W (s.hd.getD hd0).H r).1.last (Yd (s.hd.getD hd0).K (s.hd.getD hd0).W (s.hd.getD hd0).H r).1.e (Yd (s.hd.getD hd0).K (s.hd.getD hd0).W (s.hd.getD hd0).H r).2
  | .rw _ => ({ s with over := true, e := 6 }, [])
  | .no => if s.hd.isSome = true ∧ (s.hd.getD hd0).e = 9 then ({ s with over := true, e := 6 }, []) else ({ s with over := true }, [])
def hdJ (l0 l1 l2 : Int) (h : HS) : Prop := hdI h ∧ h.e = 9 ∧ (2 ≤ h.at_ → 1 ≤ h.K ∧ h.K ≤ 6) ∧ (1 ≤ h.i → 1 ≤ h.W ∧ h.W ≤ l0) ∧ (2 ≤ h.i → 1 ≤ h.H ∧ h.H ≤ l1 ∧ ¬ Zc h.K) ∧ (h.at_ = 3 → Zx (X4 l0 l1 l2 h.i) h.t)
theorem hdJ0 (l0 l1 l2 : Int) : hdJ l0 l1 l2 hd0 := by unfold hdJ hdI hd0; simp
structure LimO (l0 l1 l2 : Int) : Prop where
  a : 1 ≤ l0 ∧ l0 ≤ 4096
  b : 1 ≤ l1 ∧ l1 ≤ 65536
  c : 1 ≤ l2 ∧ l2 ≤ 65535
def YC (h : HS) : Prop := h.last = 1 ∧ h.e = 0 ∧ Xv h.K h.W h.H h.M
def HdBad (h : HS) : Prop := h.last = 2 ∧ 2 ≤ h.e ∧ h.e ≤ 4
theorem hdMagic_ok {l0 l1 l2 : Int} {h : HS} {c : Int} (hL : LimO l0 l1 l2) (hj : hdJ l0 l1 l2 h) (h3 : h.at_ < 3) : hdJ l0 l1 l2 (XP l0 h c) ∨ HdBad (XP l0 h c) := by
  obtain ⟨K, W, H, M, at_, i, t, last, e⟩ := h
  obtain ⟨⟨j1, j2, j3, j4, j5, j6⟩, j7, j8, j9, j10, j11⟩ := hj
  dsimp only at *
  have hi := j6 h3
  subst hi
  subst j1
  subst j7
  unfold XP
  dsimp only
  split
  · exact .inr ⟨rfl, (by dsimp only; omega), (by dsimp only; omega)⟩
  · rename_i q1
    split
    · refine .inl ⟨⟨rfl, ?_, ?_, ?_, ?_, ?_⟩, rfl, ?_, ?_, ?_, ?_⟩ <;> dsimp only <;> omega
    · split
      · split
        · exact .inr ⟨rfl, (by dsimp only; omega), (by dsimp only; omega)⟩
        · rename_i q2 q3
          have hc : Q6 c = true ∨ c = 35 := by
            by_cases hc : c = 35
            · exact .inr hc
            · left; cases hb : Q6 c with
              | true => rfl
              | false => exact absurd ⟨hb, hc⟩ q3
          have := tk0_soft (l0 := l0) hL.a.1 hc
          refine .inl ⟨⟨rfl, ?_, ?_, ?_, ?_, ?_⟩, rfl, ?_, ?_, ?_, ?_⟩ <;> dsimp only
          all_goals first | omega | exact fun _ => this.2
      · refine .inl ⟨⟨rfl, ?_, ?_, ?_, ?_, ?_⟩, rfl, ?_, ?_, ?_, ?_⟩ <;> dsimp only <;> omega
theorem hdNum_ok {l0 l1 l2 : Int} {h : HS} {c : Int} (hL : LimO l0 l1 l2) (hj : hdJ l0 l1 l2 h) (h3 : h.at_ = 3) : hdJ l0 l1 l2 (XF l0 l1 l2 h c) ∨ HdBad (XF l0 l1 l2 h c) ∨ YC (XF l0 l1 l2 h c) := by
  obtain ⟨K, W, H, M, at_, i, t, last, e⟩ := h
  obtain ⟨⟨j1, j2, j3, j4, j5, j6⟩, j7, j8, j9, j10, j11⟩ := hj
  dsimp only at *
  subst h3
  subst j1
  subst j7
  obtain ⟨a1, a2⟩ := hL.a
  obtain ⟨b1, b2⟩ := hL.b
  obtain ⟨d1, d2⟩ := hL.c
  have h8 := j8 (by decide)
  have hok := j11 rfl
  have hcs := tkPut_cases (c := c) hok
  unfold XF
  dsimp only
  generalize hq : QV (X4 l0 l1 l2 i) t c = q at hcs
  obtain ⟨t', k⟩ := q
  dsimp only at hcs ⊢
  rcases hcs with ⟨rfl, h1⟩ | ⟨rfl, h1, h2, h4, h5⟩ | ⟨rfl, h1, h2, h4⟩
  · rw [if_pos rfl]
    exact .inl ⟨⟨rfl, j2, j3, j4, j5, j6⟩, rfl, j8, j9, j10, fun _ => h1⟩
  · rw [if_neg (by decide), if_neg (by decide)]
    by_cases hn : t'.n = 0
    · rw [if_pos hn]; exact .inr (.inl ⟨rfl, (by dsimp only; omega), (by dsimp only; omega)⟩)
    · rw [if_neg hn]
      have h0 : ∀ m, 1 ≤ m → Zx m tk0 := fun m hm => by unfold Zx tk0; dsimp only; omega
      obtain rfl | rfl | rfl : i = 0 ∨ i = 1 ∨ i = 2 := by omega
      · have hl : X4 l0 l1 l2 0 = l0 := rfl
        rw [hl] at h5
        simp only [YB, XX, if_pos, show ¬ ((0 : Int) + 1 = 2 ∧ Zc K) from fun h => absurd h.1 (by decide), if_false, show (0 : Int) + 1 < 3 from by decide]
        exact .inl ⟨⟨rfl, j2, j3, (by dsimp only; omega), (by dsimp only; omega), fun h => absurd h (by dsimp only; omega)⟩, rfl, j8, fun _ => ⟨by dsimp only; omega, h5⟩, fun h => absurd h (by dsimp only; omega), fun _ => h0 _ b1⟩
      · have hl : X4 l0 l1 l2 1 = l1 := rfl
        rw [hl] at h5
        have h9 := j9 (by decide)
        by_cases hb : Zc K
        · simp only [YB, XX, show ¬ ((1 : Int) = 0) from by decide, if_false, if_true, show ((1 : Int) + 1 = 2 ∧ Zc K) from ⟨by decide, hb⟩, show ¬ (3 : Int) < 3 from by decide, and_self]
          refine .inr (.inr ⟨rfl, rfl, ?_⟩)
          unfold Xv; dsimp only; omega
        · simp only [YB, XX, show ¬ ((1 : Int) = 0) from by decide, if_false, if_true, show ¬ ((1 : Int) + 1 = 2 ∧ Zc K) from fun h => hb h.2, show (1 : Int) + 1 < 3 from by decide]
          exact .inl ⟨⟨rfl, j2, j3, (by dsimp only; omega), (by dsimp only; omega), fun h => absurd h (by dsimp only; omega)⟩, rfl, j8, fun _ => h9, fun _ => ⟨by dsimp only; omega, h5, hb⟩, fun _ => h0 _ d1⟩
      · have hl : X4 l0 l1 l2 2 = l2 := rfl
        rw [hl] at h5
        have h9 := j9 (by decide)
        have h10 := j10 (by decide)
        simp only [YB, XX, show ¬ ((2 : Int) = 0) from by decide, show ¬ ((2 : Int) = 1) from by decide, if_false, show ¬ ((2 : Int) + 1 = 2 ∧ Zc K) from fun h => absurd h.1 (by decide), show ¬ (2 : Int) + 1 < 3 from by decide]
        refine .inr (.inr ⟨rfl, rfl, ?_⟩)
        have hb := h10.2.2
        unfold Zc at hb
        unfold Xv; dsimp only; omega
  · rw [if_neg (by decide), if_pos rfl]
    exact .inr (.inl ⟨rfl, by dsimp only; omega, by dsimp only; omega⟩)
theorem hdPut_ok {l0 l1 l2 : Int} {h : HS} {c : Int} (hL : LimO l0 l1 l2) (hj : hdJ l0 l1 l2 h) : hdJ l0 l1 l2 (Q1 l0 l1 l2 h c) ∨ HdBad (Q1 l0 l1 l2 h c) ∨ YC (Q1 l0 l1 l2 h c) := by
  unfold Q1
  rw [if_neg (fun q => q hj.1.1)]
  split
  · rename_i h3
    rcases hdMagic_ok (c := c) hL hj h3 with h | h
    · exact .inl h
    · exact .inr (.inl h)
  · exact hdNum_ok hL hj (by have := hj.1.2.2.1; omega)

end Go.Proofs.YtggamdlpiejbiaaGreat
namespace Go.Proofs.YtggamdlpiejbiaaGreat
open Go.RowKit Go.Shelf


/-- A plain raster's reader, as one part. -/
def plR (g : Nat) (K W H M : Int) (s : RS) : HP := exs fun p : Option Addr × Nat × Option Addr × Nat => [QA g [.int .i64 K, .int .i64 W, .int .i64 H, .int .i64 M, stpOf K, .int .i64 s.n, .slice p.1 s.one.length p.2.1, .slice p.2.2.1 s.row.length p.2.2.2, .int .i64 s.rows, .int .i64 s.last, .int .i64 s.e] 186, QG 3 1 p.1 p.2.1 (s.one).length (QY s.one), QG 92 1 p.2.2.1 p.2.2.2 (s.row).length (Xp s.row)]
/-- A raw raster's reader, as one part. -/
def rwR (g : Nat) (K : Int) (W : Nat) (H M : Int) (s : RW) : HP := exs fun p : Option Addr × Nat => [QA g [.int .i64 K, .int .i64 (W : Int), .int .i64 H, .int .i64 M, .slice p.1 s.b.length p.2, .int .i64 (s.n : Int), .int .i64 s.rows, .int .i64 s.last, .int .i64 s.e] 198, QG 5 1 p.1 p.2 s.b.length (Xr s.b), pur (s.b.length ≤ p.2)]
/-- A head's reader, as one part. -/
def hdR (g : Nat) (l0 l1 l2 : Int) (h : HS) : HP := exs fun p : Value × HP => [QA g [.int .i64 h.K, .int .i64 h.W, .int .i64 h.H, .int .i64 h.M, .int .i64 l0, .int .i64 l1, .int .i64 l2, .int .i64 h.at_, .int .i64 h.i, p.1, .int .i64 h.last, .int .i64 h.e] 234, p.2, pur (h.last = 0 → hdT l0 l1 l2 h p.1 p.2)]


theorem plR_cl {g : Nat} {K W H M n rows last e : Int} {one row : List Int} {a1 a2 : Option Addr} {c1 c2 : Nat} {F : List HP} : Ent (QA g [.int .i64 K, .int .i64 W, .int .i64 H, .int .i64 M, stpOf K, .int .i64 n, .slice a1 one.length c1, .slice a2 row.length c2, .int .i64 rows, .int .i64 last, .int .i64 e] 186 :: QG 3 1 a1 c1 (one).length (QY one) :: QG 92 1 a2 c2 (row).length (Xp row) :: F) (plR g K W H M ⟨n, one, row, rows, last, e⟩ :: F) := Ent.exs (a1, c1, a2, c2) (Ent.refl _)
theorem plPut_rep (g : Nat) (K W H M : Int) (s : RS) (c : Int) (hK : 0 ≤ K) (h1 : s.one.length ≤ 3) (h2 : s.row.length ≤ 1000000000000) (hc : 0 ≤ c) (hc2 : c ≤ 255) (hM : 0 ≤ M) (hN : M ≤ 2 ^ 60) (h3 : 0 ≤ s.rows) (h4 : s.rows ≤ 2 ^ 60) :
    Fn Tryz.prog 127 #[.pointer (some ⟨g, 0, none⟩), .int .u8 c] [plR g K W H M s] (fun v l => ∃ s' out a3 c3, (s', out) = XH K W H M s c ∧ v = .tuple #[.slice a3 out.length c3, .int .i64 s'.last] ∧ l = [plR g K W H M s', QG 92 1 a3 c3 out.length (Xp out)] ∧ (1 ≤ W → out = [] → a3 = none)) := by
  obtain ⟨n, one, row, rows, last, e⟩ := s
  refine Fn.exs fun ⟨a1, c1, a2, c2⟩ => ?_
  refine (Put_spec g K W H M n rows last e (stpOf K) a1 a2 c1 c2 one row c rfl hK h1 h2 hc hc2 hM hN h3 h4).mono ?_
  rintro v l ⟨n', one', row', rows', last', e', out, a1, c1, a2, c2, a3, c3, hs, rfl, rfl, hnl⟩
  exact ⟨_, ⟨_, out, a3, c3, hs, rfl, rfl, hnl⟩, plR_cl⟩
theorem plEnd_rep (g : Nat) (K W H M : Int) (s : RS) (hK : 0 ≤ K) (h1 : s.one.length ≤ 3) (h2 : s.row.length ≤ 1000000000000) (h3 : 0 ≤ s.rows) (h4 : s.rows ≤ 2 ^ 60) :
    Fn Tryz.prog 62 #[.pointer (some ⟨g, 0, none⟩)] [plR g K W H M s] (fun v l => ∃ s' out a3 c3, (s', out) = Yd K W H s ∧ v = .tuple #[.slice a3 out.length c3, .int .i64 s'.last] ∧ l = [plR g K W H M s', QG 92 1 a3 c3 out.length (Xp out)] ∧ (1 ≤ W → out = [] → a3 = none)) := by
  obtain ⟨n, one, row, rows, last, e⟩ := s
  refine Fn.exs fun ⟨a1, c1, a2, c2⟩ => ?_
  refine (End_spec g K W H M n rows last e (stpOf K) a1 a2 c1 c2 one row hK h1 h2 h3 h4).mono ?_
  rintro v l ⟨n', one', row', rows', last', e', out, a1, c1, a2, c2, a3, c3, hs, rfl, rfl, hnl⟩
  exact ⟨_, ⟨_, out, a3, c3, hs, rfl, rfl, hnl⟩, plR_cl⟩
theorem plError_rep (g : Nat) (K W H M : Int) (s : RS) : Fn Tryz.prog 128 #[.pointer (some ⟨g, 0, none⟩)] [plR g K W H M s] (fun v l => v = .int .i64 s.e ∧ l = [plR g K W H M s]) := by
  obtain ⟨n, one, row, rows, last, e⟩ := s
  refine Fn.exs fun ⟨a1, c1, a2, c2⟩ => ?_
  refine (Error_spec g K W H M n rows last e (stpOf K) a1 a2 c1 c2 one row).mono ?_
  rintro v l ⟨rfl, rfl⟩
  exact ⟨_, ⟨rfl, rfl⟩, plR_cl⟩

theorem RawError_spec (K : Int) (W : Nat) (H M : Int) (_hR : RawH K (W : Int) H M) (g : Nat) (a1 : Option Addr) (c1 : Nat) (bs : List Int) (n : Int) (rows last e : Int) : Fn Tryz.prog 229 #[.pointer (some ⟨g, 0, none⟩)] [QA g [.int .i64 K, .int .i64 (W : Int), .int .i64 H, .int .i64 M, .slice a1 bs.length c1, .int .i64 n, .int .i64 rows, .int .i64 last, .int .i64 e] 198, QG 5 1 a1 c1 bs.length (Xr bs)] (fun v l => v = .int .i64 e ∧ l = [QA g [.int .i64 K, .int .i64 (W : Int), .int .i64 H, .int .i64 M, .slice a1 bs.length c1, .int .i64 n, .int .i64 rows, .int .i64 last, .int .i64 e] 198, QG 5 1 a1 c1 bs.length (Xr bs)]) := by
 refine Qk (vs := [.pointer (some ⟨g, 0, none⟩)]) Tryz.func229 rfl Tryz.ntmps229 rfl ?_
 refine Qb (Qa (Qe rfl rfl (WpL.nil (Qb (Qa (Qc rfl rfl (Qq rfl rfl (Qj (o2 := 8) rfl rfl rfl (Qo rfl rfl (by rfl) ?_)))))))))
 refine Qe rfl rfl (WpL.nil (Qi ?_))
 apply RetQ.mk
 ·exact (Res.one rfl rfl)
 ·exact ⟨rfl, rfl⟩
 ·exact Ent.refl _


theorem putW_len {K : Int} {W : Nat} {H M c : Int} {s : RW} : (Xj K W H M s c).1.b.length = s.b.length := by
  unfold Xj
  repeat' split
  all_goals simp
theorem rwR_cl {g : Nat} {K : Int} {W : Nat} {H M n rows last e : Int} {bs : List Int} {k : Nat} {a1 : Option Addr} {c1 : Nat} {F : List HP} (hn : n = (k : Int)) (hc : bs.length ≤ c1) : Ent (QA g [.int .i64 K, .int .i64 (W : Int), .int .i64 H, .int .i64 M, .slice a1 bs.length c1, .int .i64 n, .int .i64 rows, .int .i64 last, .int .i64 e] 198 :: QG 5 1 a1 c1 bs.length (Xr bs) :: F) (rwR g K W H M ⟨bs, k, rows, last, e⟩ :: F) := by
  subst hn
  exact Ent.exs (a1, c1) ((Ent.pur hc (Ent.refl _)).trans (Ent.swap.trans (Ent.cons Ent.swap)))
theorem rwPut_rep (g : Nat) (K : Int) (W : Nat) (H M : Int) (hR : RawH K (W : Int) H M) (s : RW) (hbs : ∀ x ∈ s.b, 0 ≤ x ∧ x ≤ 255) (hst : s.b.length = QF K W (Qg M)) (hn : s.n < s.b.length) (hro : 0 ≤ s.rows ∧ s.rows ≤ 100000) (c : Int) (hc : 0 ≤ c) (hc2 : c ≤ 255) :
    Fn Tryz.prog 125 #[.pointer (some ⟨g, 0, none⟩), .int .u8 c] [rwR g K W H M s] (fun v l => ∃ s' out a3 c3, (s', out) = Xj K W H M s c ∧ v = .tuple #[.slice a3 out.length c3, .int .i64 s'.last] ∧ l = [rwR g K W H M s', QG 92 1 a3 c3 out.length (Xp out)] ∧ (out = [] → a3 = none)) := by
  obtain ⟨bs, n, rows, last, e⟩ := s
  refine Fn.exs fun ⟨a1, c1⟩ => ?_
  refine (Fn.pur (F := [QA g [.int .i64 K, .int .i64 (W : Int), .int .i64 H, .int .i64 M, .slice a1 bs.length c1, .int .i64 (n : Int), .int .i64 rows, .int .i64 last, .int .i64 e] 198, QG 5 1 a1 c1 bs.length (Xr bs)]) fun hbc => ?_).pre (Take.ent' (by repeat' constructor))
  dsimp only at hbc hbs hst hn hro
  have hb := hR.bd
  have hsb := XU (K := K) (W := W) (Q2 M) (by omega) (by omega)
  refine (RawPut_spec K W H M hR g a1 c1 bs hbs (by omega) n rows last e hst hbc hn hro c hc hc2).mono ?_
  rintro v l ⟨b', n', rows', last', e', out, a3, c3, hs, rfl, rfl, hnl⟩
  have hl : b'.length = bs.length := by
    have := putW_len (K := K) (W := W) (H := H) (M := M) (c := c) (s := ⟨bs, n, rows, last, e⟩)
    rw [← hs] at this
    exact this
  exact ⟨_, ⟨_, out, a3, c3, hs, rfl, rfl, hnl⟩, rwR_cl rfl (by omega)⟩
theorem rwError_rep (g : Nat) (K : Int) (W : Nat) (H M : Int) (hR : RawH K (W : Int) H M) (s : RW) : Fn Tryz.prog 229 #[.pointer (some ⟨g, 0, none⟩)] [rwR g K W H M s] (fun v l => v = .int .i64 s.e ∧ l = [rwR g K W H M s]) := by
  obtain ⟨bs, n, rows, last, e⟩ := s
  refine Fn.exs fun ⟨a1, c1⟩ => ?_
  refine (Fn.pur (F := [QA g [.int .i64 K, .int .i64 (W : Int), .int .i64 H, .int .i64 M, .slice a1 bs.length c1, .int .i64 (n : Int), .int .i64 rows, .int .i64 last, .int .i64 e] 198, QG 5 1 a1 c1 bs.length (Xr bs)]) fun hbc => ?_).pre (Take.ent' (by repeat' constructor))
  refine (RawError_spec K W H M hR g a1 c1 bs n rows last e).mono ?_
  rintro v l ⟨rfl, rfl⟩
  exact ⟨_, ⟨rfl, rfl⟩, rwR_cl rfl hbc⟩
/-- A raster's reader that was told nothing. -/
theorem rwNew_rep (K : Int) (W : Nat) (H M : Int) (hR : RawH K (W : Int) H M) : Fn Tryz.prog 124 #[.agg #[.int .i64 K, .int .i64 (W : Int), .int .i64 H, .int .i64 M]] [] (fun v l => ∃ g, v = .tuple #[.pointer (some ⟨g, 0, none⟩), .int .i64 0] ∧ l = [rwR g K W H M ⟨List.replicate (QF K W (Qg M)) 0, 0, 0, 0, 0⟩]) := by
  refine (ZL K W H M hR).mono ?_
  rintro v l ⟨g, g2, b0, hb0, hz, rfl, rfl⟩
  have hb : b0 = List.replicate (QF K W (Qg M)) 0 := by rw [← hb0]; exact List.eq_replicate_of_mem hz
  subst hb
  exact ⟨_, ⟨g, rfl, rfl⟩, rwR_cl rfl (Nat.le_refl _)⟩
theorem plNew_rep (K W H M : Int) (hP : Zi K W H M) : Fn Tryz.prog 126 #[.agg #[.int .i64 K, .int .i64 W, .int .i64 H, .int .i64 M]] [] (fun v l => ∃ g, v = .tuple #[.pointer (some ⟨g, 0, none⟩), .int .i64 0] ∧ l = [plR g K W H M s0R]) := by
  refine (New_spec K W H M).mono ?_
  rintro v l (⟨_, g, rfl, rfl⟩ | ⟨h, _⟩)
  · exact ⟨_, ⟨g, rfl, rfl⟩, plR_cl (n := -1) (rows := 0) (last := 0) (e := 0) (one := []) (row := []) (a1 := none) (a2 := none) (c1 := 0) (c2 := 0)⟩
  · exact absurd hP h
theorem hdPut_rep (g : Nat) (l0 l1 l2 : Int) (h : HS) (c : Int) (hc0 : 0 ≤ c) (hc1 : c ≤ 255) (hL : LimO l0 l1 l2) (hj : hdJ l0 l1 l2 h) :
    Fn Tryz.prog 123 #[.pointer (some ⟨g, 0, none⟩), .int .u8 c] [hdR g l0 l1 l2 h] (fun v l => v = .int .i64 (Q1 l0 l1 l2 h c).last ∧ l = [hdR g l0 l1 l2 (Q1 l0 l1 l2 h c)]) := by
  refine Fn.exs fun ⟨pt, A⟩ => ?_
  refine (Fn.pur (F := [QA g [.int .i64 h.K, .int .i64 h.W, .int .i64 h.H, .int .i64 h.M, .int .i64 l0, .int .i64 l1, .int .i64 l2, .int .i64 h.at_, .int .i64 h.i, pt, .int .i64 h.last, .int .i64 h.e] 234, A]) fun hT => ?_).pre (Take.ent' (by repeat' constructor))
  have hl0 := hj.1.1
  rw [hl0]
  have := hdPut_spec g l0 l1 l2 h pt A c hc0 hc1 ⟨hL.a, hL.b, hL.c⟩ hj.1 (hT hl0)
  refine this.mono ?_
  rintro v l ⟨s', pt', A', rfl, rfl, hok, rfl⟩
  exact ⟨_, ⟨rfl, rfl⟩, Ent.exs (pt', A') ((Ent.pur (fun q => (hok q).2) (Ent.refl _)).trans (Ent.swap.trans (Ent.cons Ent.swap)))⟩
theorem hdHead_rep (g : Nat) (l0 l1 l2 : Int) (h : HS) : Fn Tryz.prog 116 #[.pointer (some ⟨g, 0, none⟩)] [hdR g l0 l1 l2 h] (fun v l => v = (if h.e = 0 then .tuple #[.agg #[.int .i64 h.K, .int .i64 h.W, .int .i64 h.H, .int .i64 h.M], .int .i64 0] else .tuple #[.agg #[.int .i64 0, .int .i64 0, .int .i64 0, .int .i64 0], .int .i64 h.e]) ∧ l = [hdR g l0 l1 l2 h]) := by
  refine Fn.exs fun ⟨pt, A⟩ => ?_
  have hf : Fn Tryz.prog 116 #[.pointer (some ⟨g, 0, none⟩)] [QA g [.int .i64 h.K, .int .i64 h.W, .int .i64 h.H, .int .i64 h.M, .int .i64 l0, .int .i64 l1, .int .i64 l2, .int .i64 h.at_, .int .i64 h.i, pt, .int .i64 h.last, .int .i64 h.e] 234, A, pur (h.last = 0 → hdT l0 l1 l2 h pt A)] (fun v l => v = (if h.e = 0 then .tuple #[.agg #[.int .i64 h.K, .int .i64 h.W, .int .i64 h.H, .int .i64 h.M], .int .i64 0] else .tuple #[.agg #[.int .i64 0, .int .i64 0, .int .i64 0, .int .i64 0], .int .i64 h.e]) ∧ l = [QA g [.int .i64 h.K, .int .i64 h.W, .int .i64 h.H, .int .i64 h.M, .int .i64 l0, .int .i64 l1, .int .i64 l2, .int .i64 h.at_, .int .i64 h.i, pt, .int .i64 h.last, .int .i64 h.e] 234, A, pur (h.last = 0 → hdT l0 l1 l2 h pt A)]) := by
    refine Fn.frm (F := [A, pur (h.last = 0 → hdT l0 l1 l2 h pt A)]) (m := [QA g [.int .i64 h.K, .int .i64 h.W, .int .i64 h.H, .int .i64 h.M, .int .i64 l0, .int .i64 l1, .int .i64 l2, .int .i64 h.at_, .int .i64 h.i, pt, .int .i64 h.last, .int .i64 h.e] 234]) (R := fun v => v = (if h.e = 0 then .tuple #[.agg #[.int .i64 h.K, .int .i64 h.W, .int .i64 h.H, .int .i64 h.M], .int .i64 0] else .tuple #[.agg #[.int .i64 0, .int .i64 0, .int .i64 0, .int .i64 0], .int .i64 h.e])) ((hdHead_spec g h.K h.W h.H h.M l0 l1 l2 h.at_ h.i h.last h.e pt).mono ?_)
    rintro v l ⟨hv, rfl⟩
    refine ⟨_, ⟨?_, rfl⟩, Ent.refl _⟩
    rcases hv with ⟨h0, rfl⟩ | ⟨h0, rfl⟩
    · rw [if_neg h0]
    · rw [if_pos h0]
  refine hf.mono ?_
  rintro v l ⟨rfl, rfl⟩
  exact ⟨_, ⟨rfl, rfl⟩, Ent.exs (pt, A) (Ent.refl _)⟩
theorem hdHead_alt (g : Nat) (l0 l1 l2 : Int) (h : HS) : Fn Tryz.prog 116 #[.pointer (some ⟨g, 0, none⟩)] [hdR g l0 l1 l2 h] (fun v l => (h.e ≠ 0 ∧ v = .tuple #[.agg #[.int .i64 0, .int .i64 0, .int .i64 0, .int .i64 0], .int .i64 h.e] ∧ l = [hdR g l0 l1 l2 h]) ∨ (h.e = 0 ∧ v = .tuple #[.agg #[.int .i64 h.K, .int .i64 h.W, .int .i64 h.H, .int .i64 h.M], .int .i64 0] ∧ l = [hdR g l0 l1 l2 h])) := by
  refine (hdHead_rep g l0 l1 l2 h).mono ?_
  rintro v l ⟨rfl, rfl⟩
  refine ⟨_, ?_, Ent.refl _⟩
  by_cases h0 : h.e = 0
  · rw [if_pos h0]; exact .inr ⟨h0, rfl, rfl⟩
  · rw [if_neg h0]; exact .inl ⟨h0, rfl, rfl⟩
theorem rwNew_repI (K W H M : Int) (hR : RawH K W H M) : Fn Tryz.prog 124 #[.agg #[.int .i64 K, .int .i64 W, .int .i64 H, .int .i64 M]] [] (fun v l => ∃ g, v = .tuple #[.pointer (some ⟨g, 0, none⟩), .int .i64 0] ∧ l = [rwR g K W.toNat H M ⟨List.replicate (QF K W.toNat (Qg M)) 0, 0, 0, 0, 0⟩]) := by
  obtain ⟨Wn, rfl⟩ := Int.eq_ofNat_of_zero_le (show 0 ≤ W by have := hR.bd; omega)
  exact rwNew_rep K Wn H M hR
theorem hdNew_rep (a b d : Int) : Fn Tryz.prog 112 #[.agg #[.int .i64 a, .int .i64 b, .int .i64 d]] [] (fun v l => ∃ g, v = .pointer (some ⟨g, 0, none⟩) ∧ l = [hdR g (min (max a 1) 4096) (min (max b 1) 65536) (min (max d 1) 65535) hd0]) := by
  refine (hdNew_spec a b d).mono ?_
  rintro v l ⟨g, rfl, rfl⟩
  refine ⟨_, ⟨g, rfl, rfl⟩, Ent.exs (.pointer none, emp) ?_⟩
  have hT : hd0.last = 0 → hdT (min (max a 1) 4096) (min (max b 1) 65536) (min (max d 1) 65535) hd0 (.pointer none) emp := fun _ => .inl ⟨by decide, rfl, rfl⟩
  refine (Ent.pur hT (Yy (Ent.refl _))).trans ?_
  exact Take.ent' (by repeat' constructor)

end Go.Proofs.YtggamdlpiejbiaaGreat
namespace Go.Proofs.YtggamdlpiejbiaaGreat
open Go.RowKit Go.Shelf


instance : InvM1 Tryz.prog "Put" 124 127 := ⟨fun _ _ _ => by kernel_rfl⟩
instance : InvM0 Tryz.prog "Error" 124 128 := ⟨fun _ _ => by kernel_rfl⟩
instance : InvM1 Tryz.prog "Put" 193 125 := ⟨fun _ _ _ => by kernel_rfl⟩
instance : InvM0 Tryz.prog "Error" 193 229 := ⟨fun _ _ => by kernel_rfl⟩
def pnV (g : Nat) (ph : Int) : Value := .func (.func (if ph = 0 then 60 else if ph = 1 then 113 else 163)) #[.pointer (some ⟨g, 0, none⟩)] #[]
/-- A head's reader, or none. -/
def hdO (l0 l1 l2 : Int) (hp : Value) : Option HS → HP
  | none => pur (hp = .pointer none)
  | some h => exs fun gh : Nat => [pur (hp = .pointer (some ⟨gh, 0, none⟩)), hdR gh l0 l1 l2 h]
/-- A raster's reader, or none. -/
def bdR (bv : Value) (h : HS) : Bd → HP
  | .no => pur (bv = .nilIface)
  | .pl s => exs fun gb : Nat => [pur (bv = .iface 124 (.pointer (some ⟨gb, 0, none⟩))), plR gb h.K h.W h.H h.M s]
  | .rw s => exs fun gb : Nat => [pur (bv = .iface 193 (.pointer (some ⟨gb, 0, none⟩))), rwR gb h.K h.W.toNat h.H h.M s]
def QP (a : Int) : Int := min (max a 1) 4096
def QR (a : Int) : Int := min (max a 1) 65536
def QS (a : Int) : Int := min (max a 1) 65535
theorem lim_o (a b d : Int) : LimO (QP a) (QR b) (QS d) := ⟨by unfold QP; omega, by unfold QR; omega, by unfold QS; omega⟩
/-- A stream's reader, as one part. -/
def psR (g : Nat) (a b d : Int) (s : PS) : HP := exs fun p : Value × Value => [QA g [.int .i64 a, .int .i64 b, .int .i64 d, (pnV g s.ph), p.1, p.2, .int .i64 s.told, .int .i64 s.imgs, .bool s.over, .int .i64 s.e] 123, hdO (QP a) (QR b) (QS d) p.1 s.hd, bdR p.2 (s.hd.getD hd0) s.bd]
def evC (a3 : Option Addr) (c3 : Nat) (x : Evt) : List Value := [.int .i64 x.k, .int .i64 x.c, .int .i64 x.m, .int .i64 x.w, .int .i64 x.h, if x.row = [] then .slice none 0 0 else .slice a3 x.row.length c3]
def evRow : List Evt → List Int
  | [] => []
  | x :: _ => x.row
/-- Events that were told. -/
def evO (v : Value) (evs : List Evt) : HP := exs fun p : Option Addr × Nat × Option Addr × Nat => [pur (v = .slice p.1 evs.length p.2.1), QG 51 6 p.1 p.2.1 evs.length (evs.flatMap (evC p.2.2.1 p.2.2.2)), QG 92 1 p.2.2.1 p.2.2.2 (evRow evs).length (Xp (evRow evs))]

theorem Y4 (g : Nat) (a b d told imgs e : Int) (over : Bool) (stp hp bv : Value) (x : Int) : Fn Tryz.prog 64 #[.pointer (some ⟨g, 0, none⟩), .int .i64 x] [QA g [.int .i64 a, .int .i64 b, .int .i64 d, stp, hp, bv, .int .i64 told, .int .i64 imgs, .bool over, .int .i64 e] 123] (fun v l => v = .slice none 0 0 ∧ l = [QA g [.int .i64 a, .int .i64 b, .int .i64 d, stp, hp, bv, .int .i64 told, .int .i64 imgs, .bool over, .int .i64 x] 123]) := by
 refine Qk (vs := [.pointer (some ⟨g, 0, none⟩), .int .i64 x]) Tryz.func64 rfl Tryz.ntmps64 rfl ?_
 refine Qb (Qa (Qe rfl rfl (WpL.nil (Qb (Qa (Qc rfl rfl (Qc rfl rfl (Qq rfl rfl (Qj (o2 := 9) rfl rfl rfl (Q3 rfl rfl rfl (WpL.nil (Qb ?_))))))))))))
 refine Qa (Qe rfl rfl (WpL.nil (Qi ?_)))
 apply RetQ.mk
 ·exact (Res.one rfl rfl)
 ·exact ⟨rfl, rfl⟩
 ·exact Ent.refl _

theorem pnInside_spec (g gh : Nat) (a b d told imgs e l0 l1 l2 : Int) (over : Bool) (stp bv : Value) (h : HS) : Fn Tryz.prog 63 #[.pointer (some ⟨g, 0, none⟩)] [QA g [.int .i64 a, .int .i64 b, .int .i64 d, stp, (.pointer (some ⟨gh, 0, none⟩)), bv, .int .i64 told, .int .i64 imgs, .bool over, .int .i64 e] 123, hdR gh l0 l1 l2 h] (fun v l => v = .bool (decide (h.e = 9)) ∧ l = [QA g [.int .i64 a, .int .i64 b, .int .i64 d, stp, (.pointer (some ⟨gh, 0, none⟩)), bv, .int .i64 told, .int .i64 imgs, .bool over, .int .i64 e] 123, hdR gh l0 l1 l2 h]) := by
 refine Qk (vs := [.pointer (some ⟨g, 0, none⟩)]) Tryz.func63 rfl Tryz.ntmps63 rfl ?_
 refine Qb (Qa (Qe rfl rfl (WpL.nil (Qb (Qa (Qc rfl rfl (Qq rfl rfl (Qj (o2 := 4) rfl rfl rfl (Qo rfl rfl (by rfl) ?_)))))))))
 refine Qh rfl rfl (by repeat' constructor) (hdHead_alt gh l0 l1 l2 h) ?_
 intro v0 m0 hN0
 rcases hN0 with ⟨hE, rfl, rfl⟩ | ⟨hE, rfl, rfl⟩
 ·simp only [Qr]
  refine Qc rfl rfl (QH rfl rfl rfl (QH rfl rfl rfl (YE rfl ?_)))
  intro g1
  refine XL rfl rfl rfl (by rfl) rfl ?_
  refine Qe rfl rfl (WpL.nil (Qb (Qa (Qc rfl rfl (QN rfl rfl rfl (Qe rfl rfl (WpL.nil (Qi ?_))))))))
  apply RetQ.mk
  ·exact (Res.one rfl rfl)
  ·exact ⟨rfl, rfl⟩
  ·exact Take.ent' (by repeat' constructor)
 ·simp only [Qr]
  refine Qc rfl rfl (QH rfl rfl rfl (QH rfl rfl rfl (YE rfl ?_)))
  intro g2
  refine XL rfl rfl rfl (by rfl) rfl ?_
  refine Qe rfl rfl (WpL.nil (Qb (Qa (Qc rfl rfl (QN rfl rfl rfl (Qe rfl rfl (WpL.nil (Qi ?_))))))))
  apply RetQ.mk
  ·exact (Res.one rfl rfl)
  ·exact ⟨by rw [hE], rfl⟩
  ·exact Take.ent' (by repeat' constructor)

theorem pnHeads_open (g gh : Nat) (a b d told imgs e l0 l1 l2 : Int) (over : Bool) (stp : Value) (h : HS) (c : Int) (hc0 : 0 ≤ c) (hc1 : c ≤ 255) (hL : LimO l0 l1 l2) (hj : hdJ l0 l1 l2 h) : Fn Tryz.prog 113 #[.pointer (some ⟨g, 0, none⟩), .int .u8 c] [QA g [.int .i64 a, .int .i64 b, .int .i64 d, stp, (.pointer (some ⟨gh, 0, none⟩)), .nilIface, .int .i64 told, .int .i64 imgs, .bool over, .int .i64 e] 123, hdR gh l0 l1 l2 h] (fun v l => ((Q1 l0 l1 l2 h c).last = 0 ∧ v = .slice none 0 0 ∧ l = [QA g [.int .i64 a, .int .i64 b, .int .i64 d, stp, (.pointer (some ⟨gh, 0, none⟩)), .nilIface, .int .i64 told, .int .i64 imgs, .bool over, .int .i64 e] 123, hdR gh l0 l1 l2 (Q1 l0 l1 l2 h c)]) ∨ ((Q1 l0 l1 l2 h c).last ≠ 0 ∧ (Q1 l0 l1 l2 h c).e ≠ 0 ∧ v = .slice none 0 0 ∧ l = [QA g [.int .i64 a, .int .i64 b, .int .i64 d, stp, (.pointer (some ⟨gh, 0, none⟩)), .nilIface, .int .i64 told, .int .i64 imgs, .bool over, .int .i64 (Q1 l0 l1 l2 h c).e] 123, hdR gh l0 l1 l2 (Q1 l0 l1 l2 h c)]) ∨ ((Q1 l0 l1 l2 h c).last ≠ 0 ∧ (Q1 l0 l1 l2 h c).e = 0 ∧ ∃ ge bv', v = .slice (some ⟨ge, 0, none⟩) 1 1 ∧ l = [QA g [.int .i64 a, .int .i64 b, .int .i64 d, (pnV g 2), (.pointer (some ⟨gh, 0, none⟩)), bv', .int .i64 told, .int .i64 imgs, .bool over, .int .i64 e] 123, hdR gh l0 l1 l2 (Q1 l0 l1 l2 h c), bdR bv' (Q1 l0 l1 l2 h c) (bd0 (Q1 l0 l1 l2 h c)), QA ge [.int .i64 1, .int .i64 (QW (Q1 l0 l1 l2 h c).K), .int .i64 (Q1 l0 l1 l2 h c).M, .int .i64 (Q1 l0 l1 l2 h c).W, .int .i64 (Q1 l0 l1 l2 h c).H, .slice none 0 0] 51])) := by
 have hok := hdPut_ok (c := c) hL hj
 refine Qk (vs := [.pointer (some ⟨g, 0, none⟩), .int .u8 c]) Tryz.func113 rfl Tryz.ntmps113 rfl ?_
 refine Qb (Qa (Qe rfl rfl (WpL.nil (Qb (Qa (Qc rfl rfl (Qq rfl rfl (Qj (o2 := 4) rfl rfl rfl (Qo rfl rfl (by rfl) ?_)))))))))
 refine Qc rfl rfl (Qh rfl rfl (by repeat' constructor) (hdPut_rep gh l0 l1 l2 h c hc0 hc1 hL hj) ?_)
 rintro _ _ ⟨rfl, rfl⟩
 simp only [Qr]
 generalize Q1 l0 l1 l2 h c = h' at hok ⊢
 refine Qe rfl rfl (WpL.nil (Qb (Qb (Qa (Qc rfl rfl (QN rfl rfl rfl (WpL.nil (Ql rfl (fun h0 => ?_) (fun h0 => ?_)))))))))
 ·refine Qb (Qa (Qe rfl rfl (WpL.nil (Qi ?_))))
  apply RetQ.mk
  ·exact (Res.one rfl rfl)
  ·exact .inl ⟨h0, rfl, rfl⟩
  ·exact Take.ent' (by repeat' constructor)
 ·refine Wp.skip (Qb (Qa (Qc rfl rfl (Qq rfl rfl (Qj (o2 := 4) rfl rfl rfl (Qo rfl rfl (by rfl) ?_))))))
  refine Qh rfl rfl (by repeat' constructor) (hdHead_alt gh l0 l1 l2 h') ?_
  intro v0 m0 hN0
  rcases hN0 with ⟨hE, rfl, rfl⟩ | ⟨hE, rfl, rfl⟩
  ·simp only [Qr]
   refine Qc rfl rfl (QH rfl rfl rfl (QH rfl rfl rfl (YE rfl ?_)))
   intro g1
   refine XL rfl rfl rfl (by rfl) rfl ?_
   refine Qe rfl rfl (WpL.nil (Qb (Qb (Qa (Qc rfl rfl (Xn rfl rfl rfl (WpL.nil (QU rfl hE (Qb (Qa (Qc rfl rfl (Qc rfl rfl ?_))))))))))))
   refine Qh rfl rfl (by repeat' constructor) (Y4 _ _ _ _ _ _ _ _ _ _ _ _) ?_
   rintro _ _ ⟨rfl, rfl⟩
   simp only [Qr]
   refine Qe rfl rfl (WpL.nil (Qi ?_))
   apply RetQ.mk
   ·exact (Res.one rfl rfl)
   ·exact .inr (.inl ⟨h0, hE, rfl, rfl⟩)
   ·exact Take.ent' (by repeat' constructor)
  ·simp only [Qr]
   refine Qc rfl rfl (QH rfl rfl rfl (QH rfl rfl rfl (YE rfl ?_)))
   intro g2
   refine XL rfl rfl rfl (by rfl) rfl ?_
   refine Qe rfl rfl (WpL.nil (Qb (Qb (Qa (Qc rfl rfl (Xn rfl rfl rfl (WpL.nil (Qz rfl (by decide) (Wp.skip (Qb (Qa (Qc rfl rfl ?_))))))))))))
   refine Qc rfl rfl (ZV rfl rfl rfl (Qq rfl rfl (Qj (o2 := 3) rfl rfl rfl (Q3 rfl rfl rfl (WpL.nil (Qb (Qb (Qa ?_))))))))
   refine QI (vs := [_, _, _, _]) rfl rfl rfl (by rfl) ?_
   refine Qh rfl rfl (by repeat' constructor) (ZW _ _ _ _) ?_
   rintro _ _ ⟨rfl, rfl⟩
   simp only [Qr]
   refine WpL.nil (Ql rfl (fun h2 => ?_) (fun h2 => ?_))
   ·have hM : Xv h'.K h'.W h'.H h'.M := by rcases hok with q | q | q; exact absurd q.1.1 h0; exact absurd hE (by have := q.2.1; omega); exact q.2.2
    have hb0 : bd0 h' = .rw (rw0 h') := if_pos h2
    have hR : RawH h'.K h'.W h'.H h'.M := ⟨hM, h2.1⟩
    refine Qa (Qc rfl rfl ?_)
    refine QI (vs := [_, _, _, _]) rfl rfl rfl (by rfl) ?_
    refine Qh rfl rfl (by repeat' constructor) (rwNew_repI h'.K h'.W h'.H h'.M hR) ?_
    rintro _ _ ⟨gb, rfl, rfl⟩
    simp only [Qr]
    have hKK : 0 ≤ h'.K := by omega
    refine Qc rfl rfl (QH rfl rfl rfl (s_mkif rfl Tryz.underlying193 rfl (QH rfl rfl rfl (Qq rfl rfl (Qj (o2 := 5) rfl rfl rfl (Q3 rfl rfl rfl (WpL.nil (Qb ?_))))))))
    apply Xs (fB := []) mixed [(7, false)] (by kernel_rfl)
    apply Xk [⟨0, 54, _, [], false⟩, ⟨1, 55, _, [0], false⟩, ⟨2, 56, _, [], false⟩, ⟨3, 57, _, [2], false⟩, ⟨4, 58, _, [], false⟩, ⟨5, 59, _, [4], false⟩, ⟨6, 60, _, [1, 3, 5], false⟩] [] [0, 1, 2, 3, 4, 5, 6] [4] (.inr rfl) rfl rfl rfl (by kernel_rfl) rfl rfl rfl
    ·refine AllF.cons rfl rfl rfl rfl ?_ ?_
     ·refine QI (vs := [_, _, _, _]) rfl rfl rfl (by rfl) ?_
      exact Qm rfl
     refine AllF.cons rfl rfl rfl rfl ?_ ?_
     ·refine Qh rfl rfl (by repeat' constructor) (XJ _ _ _ _ (by omega)) ?_
      rintro _ _ ⟨rfl, rfl⟩
      simp only [Qr]
      exact WpL.nil ⟨rfl, rfl, rfl, by exact Ent.refl _⟩
     refine AllF.cons rfl rfl rfl rfl ?_ ?_
     ·exact Qj (o2 := 1) rfl rfl rfl (Qm rfl)
     refine AllF.cons rfl rfl rfl rfl ?_ ?_
     ·refine Qo rfl rfl (by rfl) ?_
      exact Qm rfl
     refine AllF.cons rfl rfl rfl rfl ?_ ?_
     ·exact Qj (o2 := 2) rfl rfl rfl (Qm rfl)
     refine AllF.cons rfl rfl rfl rfl ?_ ?_
     ·refine Qo rfl rfl (by rfl) ?_
      exact Qm rfl
     refine AllF.cons rfl rfl rfl rfl ?_ ?_
     ·refine YI rfl rfl ?_
      exact Qm rfl
     exact AllF.nil
    ·refine Vi rfl rfl (by rfl) (by rfl) (by rfl) (by rfl) ?_
     intro ge
     refine WpL.nil ⟨rfl, rfl, ?_⟩
     apply GoR.nil [⟨8, 4, _, [0, 1, 2, 3, 4, 5, 6, 7], false⟩] (.inr rfl) rfl rfl
     ·refine AllF.cons rfl rfl rfl rfl ?_ ?_
      ·exact Qe rfl rfl (Qm rfl)
      exact AllF.nil
     ·refine Qi ?_
      apply RetQ.mk
      ·exact (Res.one rfl rfl)
      ·exact .inr (.inr ⟨h0, hE, ge, .iface 193 (.pointer (some ⟨gb, 0, none⟩)), rfl, by rw [hb0]⟩)
      ·exact (Take.ent' (pre := [_, _, rwR gb h'.K h'.W.toNat h'.H h'.M (rw0 h'), _]) (by repeat' constructor)).trans (Ent.cons (Ent.cons (Ent.exs gb (Ent.pur rfl (Ent.refl _)))))
   ·have hM : Xv h'.K h'.W h'.H h'.M := by rcases hok with q | q | q; exact absurd q.1.1 h0; exact absurd hE (by have := q.2.1; omega); exact q.2.2
    have hb0 : bd0 h' = .pl s0R := if_neg h2
    have hR : Zi h'.K h'.W h'.H h'.M := ⟨hM, h2⟩
    refine Qa (Qc rfl rfl ?_)
    refine QI (vs := [_, _, _, _]) rfl rfl rfl (by rfl) ?_
    refine Qh rfl rfl (by repeat' constructor) (plNew_rep h'.K h'.W h'.H h'.M hR) ?_
    rintro _ _ ⟨gb, rfl, rfl⟩
    simp only [Qr]
    have hKK : 0 ≤ h'.K := by have := hM.1; omega
    refine Qc rfl rfl (QH rfl rfl rfl (s_mkif rfl Tryz.underlying124 rfl (QH rfl rfl rfl (Qq rfl rfl (Qj (o2 := 5) rfl rfl rfl (Q3 rfl rfl rfl (WpL.nil (Qb ?_))))))))
    apply Xs (fB := []) mixed [(7, false)] (by kernel_rfl)
    apply Xk [⟨0, 54, _, [], false⟩, ⟨1, 55, _, [0], false⟩, ⟨2, 56, _, [], false⟩, ⟨3, 57, _, [2], false⟩, ⟨4, 58, _, [], false⟩, ⟨5, 59, _, [4], false⟩, ⟨6, 60, _, [1, 3, 5], false⟩] [] [0, 1, 2, 3, 4, 5, 6] [4] (.inr rfl) rfl rfl rfl (by kernel_rfl) rfl rfl rfl
    ·refine AllF.cons rfl rfl rfl rfl ?_ ?_
     ·refine QI (vs := [_, _, _, _]) rfl rfl rfl (by rfl) ?_
      exact Qm rfl
     refine AllF.cons rfl rfl rfl rfl ?_ ?_
     ·refine Qh rfl rfl (by repeat' constructor) (XJ _ _ _ _ (by omega)) ?_
      rintro _ _ ⟨rfl, rfl⟩
      simp only [Qr]
      exact WpL.nil ⟨rfl, rfl, rfl, by exact Ent.refl _⟩
     refine AllF.cons rfl rfl rfl rfl ?_ ?_
     ·exact Qj (o2 := 1) rfl rfl rfl (Qm rfl)
     refine AllF.cons rfl rfl rfl rfl ?_ ?_
     ·refine Qo rfl rfl (by rfl) ?_
      exact Qm rfl
     refine AllF.cons rfl rfl rfl rfl ?_ ?_
     ·exact Qj (o2 := 2) rfl rfl rfl (Qm rfl)
     refine AllF.cons rfl rfl rfl rfl ?_ ?_
     ·refine Qo rfl rfl (by rfl) ?_
      exact Qm rfl
     refine AllF.cons rfl rfl rfl rfl ?_ ?_
     ·refine YI rfl rfl ?_
      exact Qm rfl
     exact AllF.nil
    ·refine Vi rfl rfl (by rfl) (by rfl) (by rfl) (by rfl) ?_
     intro ge
     refine WpL.nil ⟨rfl, rfl, ?_⟩
     apply GoR.nil [⟨8, 4, _, [0, 1, 2, 3, 4, 5, 6, 7], false⟩] (.inr rfl) rfl rfl
     ·refine AllF.cons rfl rfl rfl rfl ?_ ?_
      ·exact Qe rfl rfl (Qm rfl)
      exact AllF.nil
     ·refine Qi ?_
      apply RetQ.mk
      ·exact (Res.one rfl rfl)
      ·exact .inr (.inr ⟨h0, hE, ge, .iface 124 (.pointer (some ⟨gb, 0, none⟩)), rfl, by rw [hb0]⟩)
      ·exact (Take.ent' (pre := [_, _, plR gb h'.K h'.W h'.H h'.M s0R, _]) (by repeat' constructor)).trans (Ent.cons (Ent.cons (Ent.exs gb (Ent.pur rfl (Ent.refl _)))))

end Go.Proofs.YtggamdlpiejbiaaGreat
namespace Go.Proofs.YtggamdlpiejbiaaGreat
open Go.RowKit Go.Shelf


theorem XY {g : Nat} {a b d told imgs e : Int} {over : Bool} {hp bv : Value} {hd : Option HS} {ph : Int} {bd : Bd} {F : List HP} :
    Ent (QA g [.int .i64 a, .int .i64 b, .int .i64 d, (pnV g ph), hp, bv, .int .i64 told, .int .i64 imgs, .bool over, .int .i64 e] 123 :: hdO (QP a) (QR b) (QS d) hp hd :: bdR bv (hd.getD hd0) bd :: F) (psR g a b d ⟨hd, ph, bd, told, imgs, over, e⟩ :: F) := Ent.exs (hp, bv) (Ent.refl _)
theorem hdO_cl {l0 l1 l2 : Int} {gh : Nat} {h : HS} {F : List HP} : Ent (hdR gh l0 l1 l2 h :: F) (hdO l0 l1 l2 (.pointer (some ⟨gh, 0, none⟩)) (some h) :: F) := Ent.exs gh (Ent.pur rfl (Ent.refl _))
theorem bdR_no {h : HS} {F : List HP} : Ent F (bdR .nilIface h .no :: F) := Ent.pur rfl (Ent.refl _)
theorem evO_0 {F : List HP} : Ent F (evO (.slice none 0 0) [] :: F) := Ent.exs (none, 0, none, 0) (Ent.pur rfl (Ent.own_nil (Ent.own_nil (Ent.refl _))))
theorem evO_b {ge : Nat} {C M W H : Int} {F : List HP} : Ent (QA ge [.int .i64 1, .int .i64 C, .int .i64 M, .int .i64 W, .int .i64 H, .slice none 0 0] 51 :: F) (evO (.slice (some ⟨ge, 0, none⟩) 1 1) [⟨1, C, M, W, H, []⟩] :: F) :=
  (Ent.own_blkS (m := 1) (s := 6) rfl (by omega)).trans (Ent.exs (some ⟨ge, 0, none⟩, 1, none, 0) (Ent.pur rfl (((Ent.own_nil (T := 92) (s := 1) (Ent.refl _)).trans Ent.swap))))
theorem evO_r {a a3 : Option Addr} {c c3 : Nat} {row : List Int} {F : List HP} (h : row ≠ []) : Ent (QG 51 6 a c 1 [.int .i64 2, .int .i64 0, .int .i64 0, .int .i64 0, .int .i64 0, .slice a3 row.length c3] :: QG 92 1 a3 c3 row.length (Xp row) :: F) (evO (.slice a 1 c) (XC row) :: F) := by
  have e1 : XC row = [⟨2, 0, 0, 0, 0, row⟩] := if_neg h
  have e2 : evC a3 c3 ⟨2, 0, 0, 0, 0, row⟩ = [.int .i64 2, .int .i64 0, .int .i64 0, .int .i64 0, .int .i64 0, .slice a3 row.length c3] := by unfold evC; rw [if_neg h]
  rw [e1]
  refine Ent.exs (a, c, a3, c3) (Ent.pur rfl ?_)
  simp only [List.flatMap_cons, List.flatMap_nil, e2, List.append_nil, evRow]
  exact Ent.refl _
theorem evO_d {a : Option Addr} {c : Nat} {F : List HP} : Ent (QG 51 6 a c 1 [.int .i64 3, .int .i64 0, .int .i64 0, .int .i64 0, .int .i64 0, .slice none 0 0] :: F) (evO (.slice a 1 c) (Xq 1) :: F) :=
  Ent.exs (a, c, none, 0) (Ent.pur rfl ((Ent.own_nil (T := 92) (s := 1) (Ent.refl _)).trans Ent.swap))
theorem evO_rd {a a3 : Option Addr} {c c3 : Nat} {row : List Int} {F : List HP} (h : row ≠ []) : Ent (QG 51 6 a c 2 [.int .i64 2, .int .i64 0, .int .i64 0, .int .i64 0, .int .i64 0, .slice a3 row.length c3, .int .i64 3, .int .i64 0, .int .i64 0, .int .i64 0, .int .i64 0, .slice none 0 0] :: QG 92 1 a3 c3 row.length (Xp row) :: F) (evO (.slice a 2 c) (XC row ++ Xq 1) :: F) := by
  have e1 : XC row ++ Xq 1 = [⟨2, 0, 0, 0, 0, row⟩, ⟨3, 0, 0, 0, 0, []⟩] := by rw [show XC row = [⟨2, 0, 0, 0, 0, row⟩] from if_neg h]; rfl
  have e2 : evC a3 c3 ⟨2, 0, 0, 0, 0, row⟩ = [.int .i64 2, .int .i64 0, .int .i64 0, .int .i64 0, .int .i64 0, .slice a3 row.length c3] := by unfold evC; rw [if_neg h]
  have e3 : evC a3 c3 ⟨3, 0, 0, 0, 0, []⟩ = [.int .i64 3, .int .i64 0, .int .i64 0, .int .i64 0, .int .i64 0, .slice none 0 0] := by unfold evC; rw [if_pos rfl]
  rw [e1]
  refine Ent.exs (a, c, a3, c3) (Ent.pur rfl ?_)
  simp only [List.flatMap_cons, List.flatMap_nil, e2, e3, List.append_nil, evRow, List.cons_append, List.nil_append]
  exact Ent.refl _

theorem pnEvents_spec (g gb X f : Nat) (a b d told imgs e be : Int) (over : Bool) (stp hp : Value) (B : HP) [InvM0 Tryz.prog "Error" X f] (hErr : Fn Tryz.prog f #[.pointer (some ⟨gb, 0, none⟩)] [B] (fun v l => v = .int .i64 be ∧ l = [B])) (row : List Int) (a3 : Option Addr) (c3 : Nat) (hnl : row = [] → a3 = none) (st : Int) (hst : st = 0 ∨ st = 1 ∨ st = 2) (hi : 0 ≤ imgs ∧ imgs ≤ 2 ^ 60) : Fn Tryz.prog 61 #[.pointer (some ⟨g, 0, none⟩), .slice a3 row.length c3, .int .i64 st] [QA g [.int .i64 a, .int .i64 b, .int .i64 d, stp, hp, (.iface X (.pointer (some ⟨gb, 0, none⟩))), .int .i64 told, .int .i64 imgs, .bool over, .int .i64 e] 123, B, QG 92 1 a3 c3 row.length (Xp row)] (fun v l => (st = 2 ∧ l = [QA g [.int .i64 a, .int .i64 b, .int .i64 d, stp, hp, (.iface X (.pointer (some ⟨gb, 0, none⟩))), .int .i64 told, .int .i64 imgs, .bool over, .int .i64 be] 123, B, evO v (XC row ++ Xq st)]) ∨ (st = 1 ∧ l = [QA g [.int .i64 a, .int .i64 b, .int .i64 d, (pnV g 0), hp, .nilIface, .int .i64 told, .int .i64 (imgs + 1), .bool over, .int .i64 e] 123, B, evO v (XC row ++ Xq st)]) ∨ (st = 0 ∧ l = [QA g [.int .i64 a, .int .i64 b, .int .i64 d, stp, hp, (.iface X (.pointer (some ⟨gb, 0, none⟩))), .int .i64 told, .int .i64 imgs, .bool over, .int .i64 e] 123, B, evO v (XC row ++ Xq st)])) := by
 refine Qk (vs := [.pointer (some ⟨g, 0, none⟩), .slice a3 row.length c3, .int .i64 st]) Tryz.func61 rfl Tryz.ntmps61 rfl ?_
 refine Qb (Qa (Qe rfl rfl (WpL.nil (Qb (Qa (Qe rfl rfl (WpL.nil (Qb (Qb (Qa (Qc rfl rfl (WpL.rowNil (T := 92) (s := 1) (xs := Xp row) (c := c3) (m := row.length) (by repeat' constructor) (fun hnn => ?_)))))))))))))
 refine s_slne rfl Tryz.underlying49 rfl rfl (WpL.nil (X5 rfl (fun h0 => ?_) (fun h0 => ?_)))
 ·have hne : row ≠ [] := fun h => by rw [hnl h] at h0; cases h0
  refine Qa (Qc rfl rfl (Qc rfl rfl ?_))
  refine YI rfl rfl ?_
  refine Vi rfl rfl (by rfl) (by rfl) (by rfl) (by rfl) ?_
  intro g1
  (refine WpL.ent (Ent.own_nil (T := 51) (s := 6) (Ent.refl _)) ?_; refine XA rfl rfl rfl (by repeat' constructor) (by rfl) (by rfl) (by rfl) (by rfl) (by omega) (by omega) ?_)
  intro a14 c14
  refine Qe rfl rfl (WpL.nil (Qb (Qb (Qa (Qc rfl rfl (WpL.nil (Wp.block ?_)))))))
  refine Qb (Qa (QN rfl rfl rfl (Qe rfl rfl (WpL.nil (Ql rfl (fun h1 => ?_) (fun h1 => ?_))))))
  ·refine Qa (Qc rfl rfl (Qc rfl rfl (Qq rfl rfl (Qj (o2 := 5) rfl rfl rfl (Qo rfl rfl (by rfl) ?_)))))
   refine s_inv0 rfl rfl (by repeat' constructor) (hErr) ?_
   rintro _ _ ⟨rfl, rfl⟩
   simp only [Qr]
   refine Qh rfl rfl (by repeat' constructor) (Y4 g a b d told imgs e over stp hp (.iface X (.pointer (some ⟨gb, 0, none⟩))) be) ?_
   rintro _ _ ⟨rfl, rfl⟩
   simp only [Qr]
   refine WpL.nil (Qb (Qa (Qc rfl rfl (Qe rfl rfl (WpL.nil (Qi ?_))))))
   apply RetQ.mk
   ·exact (Res.one rfl rfl)
   ·have hev : XC row ++ Xq st = XC row := by rw [h1]; exact List.append_nil _
    rw [hev]
    exact .inl ⟨h1, rfl⟩
   ·exact Ent.trans (Take.ent' (by repeat' constructor)) (Ent.cons (Ent.cons (evO_r hne)))
  ·refine Qb (Qa (QN rfl rfl rfl (Qe rfl rfl (WpL.nil (Ql rfl (fun h2 => ?_) (fun h2 => ?_))))))
   ·refine Qb (Qa (Qc rfl rfl (Qq rfl rfl (Qj (o2 := 7) rfl rfl rfl (Qo rfl rfl (by rfl) ?_)))))
    refine QD rfl rfl rfl (Qu (by omega) (by omega)) ?_
    refine Qq rfl rfl (Qj (o2 := 7) rfl rfl rfl (Q3 rfl rfl rfl (WpL.nil (Qb (Qa (Qc rfl rfl (Qc rfl rfl (Qc rfl rfl (ZV rfl rfl rfl (Qq rfl rfl (Qj (o2 := 5) rfl rfl rfl (Q3 rfl rfl rfl ?_))))))))))))
    refine Qq rfl rfl (Qj (o2 := 3) rfl rfl rfl (Q3 rfl rfl rfl (WpL.nil (Qa (Qc rfl rfl ?_)))))
    refine YI rfl rfl ?_
    refine Vi rfl rfl (by rfl) (by rfl) (by rfl) (by rfl) ?_
    intro g2
    (refine XA rfl rfl rfl (by repeat' constructor) (by rfl) (by rfl) (by rfl) (by rfl) (by omega) (by omega) ?_)
    intro a45 c45
    refine Qe rfl rfl (WpL.nil (Qb (Qa (Qc rfl rfl (Qe rfl rfl (WpL.nil (Qi ?_)))))))
    apply RetQ.mk
    ·exact (Res.one rfl rfl)
    ·have hev : XC row ++ Xq st = XC row ++ Xq 1 := by rw [h2]
     rw [hev]
     exact .inr (.inl ⟨h2, rfl⟩)
    ·exact Ent.trans (Take.ent' (by repeat' constructor)) (Ent.cons (Ent.cons (evO_rd hne)))
   ·refine Wp.skip (Qb (Qa (Qc rfl rfl (Qe rfl rfl (WpL.nil (Qi ?_))))))
    apply RetQ.mk
    ·exact (Res.one rfl rfl)
    ·have hev : XC row ++ Xq st = XC row := by rw [(show st = 0 by omega)]; exact List.append_nil _
     rw [hev]
     exact .inr (.inr ⟨by omega, rfl⟩)
    ·exact Ent.trans (Take.ent' (by repeat' constructor)) (Ent.cons (Ent.cons (evO_r hne)))
 ·have hem : row = [] := by
   have := hnn (by cases a3 <;> simp_all)
   simpa [Xp] using this
  have han := hnl hem
  refine Wp.skip (Qb (Qb (Qa (Qc rfl rfl (WpL.nil (Wp.block ?_))))))
  refine Qb (Qa (QN rfl rfl rfl (Qe rfl rfl (WpL.nil (Ql rfl (fun h1 => ?_) (fun h1 => ?_))))))
  ·refine Qa (Qc rfl rfl (Qc rfl rfl (Qq rfl rfl (Qj (o2 := 5) rfl rfl rfl (Qo rfl rfl (by rfl) ?_)))))
   refine s_inv0 rfl rfl (by repeat' constructor) (hErr) ?_
   rintro _ _ ⟨rfl, rfl⟩
   simp only [Qr]
   refine Qh rfl rfl (by repeat' constructor) (Y4 g a b d told imgs e over stp hp (.iface X (.pointer (some ⟨gb, 0, none⟩))) be) ?_
   rintro _ _ ⟨rfl, rfl⟩
   simp only [Qr]
   refine WpL.nil (Qb (Qa (Qc rfl rfl (Qe rfl rfl (WpL.nil (Qi ?_))))))
   apply RetQ.mk
   ·exact (Res.one rfl rfl)
   ·have hev : XC row ++ Xq st = [] := by rw [h1, show XC row = [] from if_pos hem]; rfl
    rw [hev]
    exact .inl ⟨h1, rfl⟩
   ·exact Ent.trans (Take.ent' (by repeat' constructor)) (Ent.cons (Ent.cons evO_0))
  ·refine Qb (Qa (QN rfl rfl rfl (Qe rfl rfl (WpL.nil (Ql rfl (fun h2 => ?_) (fun h2 => ?_))))))
   ·refine Qb (Qa (Qc rfl rfl (Qq rfl rfl (Qj (o2 := 7) rfl rfl rfl (Qo rfl rfl (by rfl) ?_)))))
    refine QD rfl rfl rfl (Qu (by omega) (by omega)) ?_
    refine Qq rfl rfl (Qj (o2 := 7) rfl rfl rfl (Q3 rfl rfl rfl (WpL.nil (Qb (Qa (Qc rfl rfl (Qc rfl rfl (Qc rfl rfl (ZV rfl rfl rfl (Qq rfl rfl (Qj (o2 := 5) rfl rfl rfl (Q3 rfl rfl rfl ?_))))))))))))
    refine Qq rfl rfl (Qj (o2 := 3) rfl rfl rfl (Q3 rfl rfl rfl (WpL.nil (Qa (Qc rfl rfl ?_)))))
    refine YI rfl rfl ?_
    refine Vi rfl rfl (by rfl) (by rfl) (by rfl) (by rfl) ?_
    intro g3
    (refine WpL.ent (Ent.own_nil (T := 51) (s := 6) (Ent.refl _)) ?_; refine XA rfl rfl rfl (by repeat' constructor) (by rfl) (by rfl) (by rfl) (by rfl) (by omega) (by omega) ?_)
    intro a45 c45
    refine Qe rfl rfl (WpL.nil (Qb (Qa (Qc rfl rfl (Qe rfl rfl (WpL.nil (Qi ?_)))))))
    apply RetQ.mk
    ·exact (Res.one rfl rfl)
    ·have hev : XC row ++ Xq st = Xq 1 := by rw [h2, show XC row = [] from if_pos hem]; rfl
     rw [hev]
     exact .inr (.inl ⟨h2, rfl⟩)
    ·exact Ent.trans (Take.ent' (by repeat' constructor)) (Ent.cons (Ent.cons evO_d))
   ·refine Wp.skip (Qb (Qa (Qc rfl rfl (Qe rfl rfl (WpL.nil (Qi ?_))))))
    apply RetQ.mk
    ·exact (Res.one rfl rfl)
    ·have hev : XC row ++ Xq st = [] := by rw [(show st = 0 by omega), show XC row = [] from if_pos hem]; rfl
     rw [hev]
     exact .inr (.inr ⟨by omega, rfl⟩)
    ·exact Ent.trans (Take.ent' (by repeat' constructor)) (Ent.cons (Ent.cons evO_0))

end Go.Proofs.YtggamdlpiejbiaaGreat
namespace Go.Proofs.YtggamdlpiejbiaaGreat
open Go.RowKit Go.Shelf

theorem pnBodies_open (g gb X f fp : Nat) (a b d told imgs e be : Int) (over : Bool) (stp hp : Value) (B B' : HP) [InvM0 Tryz.prog "Error" X f] [InvM1 Tryz.prog "Put" X fp] (c : Int) (out : List Int) (st : Int) (hst : st = 0 ∨ st = 1 ∨ st = 2) (hi : 0 ≤ imgs ∧ imgs ≤ 2 ^ 60) (hErr : Fn Tryz.prog f #[.pointer (some ⟨gb, 0, none⟩)] [B'] (fun v l => v = .int .i64 be ∧ l = [B'])) (hPut : Fn Tryz.prog fp #[.pointer (some ⟨gb, 0, none⟩), .int .u8 c] [B] (fun v l => ∃ a3 c3, v = .tuple #[.slice a3 out.length c3, .int .i64 st] ∧ l = [B', QG 92 1 a3 c3 out.length (Xp out)] ∧ (out = [] → a3 = none))) : Fn Tryz.prog 163 #[.pointer (some ⟨g, 0, none⟩), .int .u8 c] [QA g [.int .i64 a, .int .i64 b, .int .i64 d, stp, hp, (.iface X (.pointer (some ⟨gb, 0, none⟩))), .int .i64 told, .int .i64 imgs, .bool over, .int .i64 e] 123, B] (fun v l => (st = 2 ∧ l = [QA g [.int .i64 a, .int .i64 b, .int .i64 d, stp, hp, (.iface X (.pointer (some ⟨gb, 0, none⟩))), .int .i64 told, .int .i64 imgs, .bool over, .int .i64 be] 123, B', evO v (XC out ++ Xq st)]) ∨ (st = 1 ∧ l = [QA g [.int .i64 a, .int .i64 b, .int .i64 d, (pnV g 0), hp, .nilIface, .int .i64 told, .int .i64 (imgs + 1), .bool over, .int .i64 e] 123, B', evO v (XC out ++ Xq st)]) ∨ (st = 0 ∧ l = [QA g [.int .i64 a, .int .i64 b, .int .i64 d, stp, hp, (.iface X (.pointer (some ⟨gb, 0, none⟩))), .int .i64 told, .int .i64 imgs, .bool over, .int .i64 e] 123, B', evO v (XC out ++ Xq st)])) := by
 refine Qk (vs := [.pointer (some ⟨g, 0, none⟩), .int .u8 c]) Tryz.func163 rfl Tryz.ntmps163 rfl ?_
 refine Qb (Qa (Qe rfl rfl (WpL.nil (Qb (Qa (Qc rfl rfl (Qc rfl rfl (Qq rfl rfl (Qj (o2 := 5) rfl rfl rfl (Qo rfl rfl (by rfl) ?_))))))))))
 refine Qc rfl rfl (s_inv1 rfl rfl rfl (by repeat' constructor) (hPut) ?_)
 rintro _ _ ⟨a3, c3, rfl, rfl, hnl⟩
 simp only [Qr]
 refine QH rfl rfl rfl (QH rfl rfl rfl (Qh rfl rfl (by repeat' constructor) (pnEvents_spec g gb X f a b d told imgs e be over stp hp B' hErr out a3 c3 hnl st hst hi) ?_))
 intro v0 m0 hN0
 rcases hN0 with ⟨hs, rfl⟩ | ⟨hs, rfl⟩ | ⟨hs, rfl⟩
 ·simp only [Qr]
  refine Qe rfl rfl (WpL.nil (Qi ?_))
  apply RetQ.mk
  ·exact (Res.one rfl rfl)
  ·exact .inl ⟨hs, rfl⟩
  ·exact Ent.refl _
 ·simp only [Qr]
  refine Qe rfl rfl (WpL.nil (Qi ?_))
  apply RetQ.mk
  ·exact (Res.one rfl rfl)
  ·exact .inr (.inl ⟨hs, rfl⟩)
  ·exact Ent.refl _
 ·simp only [Qr]
  refine Qe rfl rfl (WpL.nil (Qi ?_))
  apply RetQ.mk
  ·exact (Res.one rfl rfl)
  ·exact .inr (.inr ⟨hs, rfl⟩)
  ·exact Ent.refl _


theorem pnHeads_cl (g gh : Nat) (a b d told imgs e : Int) (over : Bool) (h : HS) (hd' : Option HS) (c : Int) (hc0 : 0 ≤ c) (hc1 : c ≤ 255) (hj : hdJ (QP a) (QR b) (QS d) h) :
    Fn Tryz.prog 113 #[.pointer (some ⟨g, 0, none⟩), .int .u8 c] [QA g [.int .i64 a, .int .i64 b, .int .i64 d, (pnV g 1), (.pointer (some ⟨gh, 0, none⟩)), .nilIface, .int .i64 told, .int .i64 imgs, .bool over, .int .i64 e] 123, hdR gh (QP a) (QR b) (QS d) h] (fun v l => l = [psR g a b d (Q8 ⟨hd', 1, .no, told, imgs, over, e⟩ (Q1 (QP a) (QR b) (QS d) h c)).1, evO v (Q8 ⟨hd', 1, .no, told, imgs, over, e⟩ (Q1 (QP a) (QR b) (QS d) h c)).2]) := by
  refine (pnHeads_open g gh a b d told imgs e (QP a) (QR b) (QS d) over (pnV g 1) h c hc0 hc1 (lim_o a b d) hj).mono ?_
  generalize Q1 (QP a) (QR b) (QS d) h c = h'
  rintro v l (⟨h0, rfl, rfl⟩ | ⟨h0, hE, rfl, rfl⟩ | ⟨h0, hE, ge, bv', rfl, rfl⟩)
  · refine ⟨_, rfl, ?_⟩
    rw [show Q8 ⟨hd', 1, .no, told, imgs, over, e⟩ h' = _ from if_pos h0]
    exact (Ent.cons (hdO_cl.trans (Ent.cons (bdR_no.trans (Ent.cons evO_0))))).trans XY
  · refine ⟨_, rfl, ?_⟩
    rw [show Q8 ⟨hd', 1, .no, told, imgs, over, e⟩ h' = _ from (if_neg h0).trans (if_pos hE)]
    exact (Ent.cons (hdO_cl.trans (Ent.cons (bdR_no.trans (Ent.cons evO_0))))).trans XY
  · refine ⟨_, rfl, ?_⟩
    rw [show Q8 ⟨hd', 1, .no, told, imgs, over, e⟩ h' = _ from (if_neg h0).trans (if_neg (fun q => q hE))]
    exact (Ent.cons (hdO_cl.trans (Ent.cons (Ent.cons evO_b)))).trans XY

theorem pnAhead_blank (g : Nat) (a b d told imgs e : Int) (over : Bool) (stp hp bv : Value) (F1 F2 : HP) (c : Int) (hc0 : 0 ≤ c) (hc1 : c ≤ 255) (hb : Q6 c = true) : Fn Tryz.prog 60 #[.pointer (some ⟨g, 0, none⟩), .int .u8 c] [QA g [.int .i64 a, .int .i64 b, .int .i64 d, stp, hp, bv, .int .i64 told, .int .i64 imgs, .bool over, .int .i64 e] 123, F1, F2] (fun v l => v = .slice none 0 0 ∧ l = [QA g [.int .i64 a, .int .i64 b, .int .i64 d, stp, hp, bv, .int .i64 told, .int .i64 imgs, .bool over, .int .i64 e] 123, F1, F2]) := by
 refine Qk (vs := [.pointer (some ⟨g, 0, none⟩), .int .u8 c]) Tryz.func60 rfl Tryz.ntmps60 rfl ?_
 refine Qb (Qa (Qe rfl rfl (WpL.nil (Qb (Qb (Qa (Qc rfl rfl (Qh rfl rfl (by repeat' constructor) (Yh _ hc0 hc1) ?_))))))))
 rintro _ _ ⟨rfl, rfl⟩
 simp only [Qr]
 refine WpL.nil (Wp.condBT rfl hb (Qb (Qa (Qe rfl rfl (WpL.nil (Qi ?_))))))
 apply RetQ.mk
 ·exact (Res.one rfl rfl)
 ·exact ⟨rfl, rfl⟩
 ·exact Ent.refl _

theorem pnAhead_head (g : Nat) (a b d told imgs e : Int) (over : Bool) (stp hp : Value) (hd : Option HS) (F1 : HP) (c : Int) (hc0 : 0 ≤ c) (hc1 : c ≤ 255) (hb : Q6 c = false) : Fn Tryz.prog 60 #[.pointer (some ⟨g, 0, none⟩), .int .u8 c] [QA g [.int .i64 a, .int .i64 b, .int .i64 d, stp, hp, .nilIface, .int .i64 told, .int .i64 imgs, .bool over, .int .i64 e] 123, F1] (fun v l => l = [psR g a b d (Q8 ⟨hd, 1, .no, told, imgs, over, e⟩ (Q1 (QP a) (QR b) (QS d) hd0 c)).1, evO v (Q8 ⟨hd, 1, .no, told, imgs, over, e⟩ (Q1 (QP a) (QR b) (QS d) hd0 c)).2]) := by
 refine Qk (vs := [.pointer (some ⟨g, 0, none⟩), .int .u8 c]) Tryz.func60 rfl Tryz.ntmps60 rfl ?_
 refine Qb (Qa (Qe rfl rfl (WpL.nil (Qb (Qb (Qa (Qc rfl rfl (Qh rfl rfl (by repeat' constructor) (Yh _ hc0 hc1) ?_))))))))
 rintro _ _ ⟨rfl, rfl⟩
 simp only [Qr]
 refine WpL.nil (Wp.condBF rfl hb (Wp.skip (Qb (Qa (Qc rfl rfl (Qc rfl rfl (Qc rfl rfl (Qq rfl rfl (Qj (o2 := 0) rfl rfl rfl ?_)))))))))
 refine QI (vs := [_, _, _]) rfl rfl rfl (by rfl) ?_
 refine Qh rfl rfl (by repeat' constructor) (hdNew_rep a b d) ?_
 rintro _ _ ⟨gh, rfl, rfl⟩
 simp only [Qr]
 refine Qc rfl rfl (ZV rfl rfl rfl (Qq rfl rfl (Qj (o2 := 4) rfl rfl rfl (Q3 rfl rfl rfl (Qq rfl rfl (Qj (o2 := 3) rfl rfl rfl (Q3 rfl rfl rfl (WpL.nil (Qb (Qa (Qc rfl rfl (Qc rfl rfl ?_))))))))))))
 refine Qh rfl rfl (by repeat' constructor) (pnHeads_cl g gh a b d told imgs e over hd0 hd c hc0 hc1 (hdJ0 _ _ _)) ?_
 rintro v _ rfl
 simp only [Qr]
 refine Qe rfl rfl (WpL.nil (Qi ?_))
 apply RetQ.mk
 ·exact (Res.one rfl rfl)
 ·exact rfl
 ·exact Take.ent' (by repeat' constructor)


/-- What the reader was told ahead of a head. -/
theorem pnAhead_cl (g : Nat) (a b d told imgs e : Int) (over : Bool) (hp bv : Value) (hd : Option HS) (c : Int) (hc0 : 0 ≤ c) (hc1 : c ≤ 255) :
    Fn Tryz.prog 60 #[.pointer (some ⟨g, 0, none⟩), .int .u8 c] [QA g [.int .i64 a, .int .i64 b, .int .i64 d, (pnV g 0), hp, bv, .int .i64 told, .int .i64 imgs, .bool over, .int .i64 e] 123, hdO (QP a) (QR b) (QS d) hp hd, bdR bv (hd.getD hd0) .no] (fun v l => l = [psR g a b d (Xt (QP a) (QR b) (QS d) ⟨hd, 0, .no, told, imgs, over, e⟩ c).1, evO v (Xt (QP a) (QR b) (QS d) ⟨hd, 0, .no, told, imgs, over, e⟩ c).2]) := by
  have e0 : Xt (QP a) (QR b) (QS d) ⟨hd, 0, .no, told, imgs, over, e⟩ c = if Q6 c = true then (⟨hd, 0, .no, told, imgs, over, e⟩, []) else Q8 ⟨hd, 0, .no, told, imgs, over, e⟩ (Q1 (QP a) (QR b) (QS d) hd0 c) := if_pos rfl
  rw [e0]
  cases hb : Q6 c with
  | true =>
    rw [if_pos rfl]
    refine (pnAhead_blank g a b d told imgs e over (pnV g 0) hp bv (hdO (QP a) (QR b) (QS d) hp hd) (bdR bv (hd.getD hd0) .no) c hc0 hc1 hb).mono ?_
    rintro v l ⟨rfl, rfl⟩
    exact ⟨_, rfl, (Ent.cons (Ent.cons (Ent.cons evO_0))).trans XY⟩
  | false =>
    rw [if_neg (by decide)]
    refine (Fn.pur (p := bv = .nilIface) (F := [QA g [.int .i64 a, .int .i64 b, .int .i64 d, (pnV g 0), hp, bv, .int .i64 told, .int .i64 imgs, .bool over, .int .i64 e] 123, hdO (QP a) (QR b) (QS d) hp hd]) fun hbv => ?_).pre (Take.ent' (pre := [bdR bv (hd.getD hd0) .no, _, _]) (by repeat' constructor))
    subst hbv
    have e1 : Q8 ⟨hd, 0, .no, told, imgs, over, e⟩ (Q1 (QP a) (QR b) (QS d) hd0 c) = Q8 ⟨hd, 1, .no, told, imgs, over, e⟩ (Q1 (QP a) (QR b) (QS d) hd0 c) := by unfold Q8; rfl
    rw [e1]
    exact pnAhead_head g a b d told imgs e over (pnV g 0) hp hd (hdO (QP a) (QR b) (QS d) hp hd) c hc0 hc1 hb

end Go.Proofs.YtggamdlpiejbiaaGreat
