/- Walks and plain laws, a part of the proof of PnmJoins: every input that the law's guards let in, no condition beside. -/
import Derived.Lib.AppendStr
import Derived.Lib.UnsafeStr
import Derived.Lib.Builder
import Derived.Laws.Externs
import Derived.Test.YtggamdlpiejbiaaGreatM11
namespace Go.Proofs.YtggamdlpiejbiaaGreat
open Go.RowKit Go.Shelf


theorem X0 (a b : ByteArray) : Xh (a ++ b) = Xh a ++ Xh b := by simp [Xh, ByteArray.data_append]
theorem Y8 {xs : List Int} (h : ∀ x ∈ xs, 0 ≤ x ∧ x ≤ 255) : Xh (strOfNums xs) = xs := by
  unfold Xh strOfNums
  simp only [List.map_map]
  conv => rhs; rw [← List.map_id xs]
  refine List.map_congr_left fun x hx => ?_
  have := h x hx
  simp only [Function.comp, UInt8.toNat_ofNat', id]
  omega
theorem ZC (xs : List Int) : (strOfNums xs).size = xs.length := by simp [strOfNums, ByteArray.size]
theorem Yl (n : Nat) : (XG n).length ≤ n + 1 := by
  induction n using Nat.strongRecOn with
  | _ n ih =>
    rw [XG]
    split
    · simp
    · have := ih (n / 10) (by omega)
      simp only [List.length_append, List.length_cons, List.length_nil]
      omega
theorem digs_rec {n : Int} (h : 10 ≤ n) : XG n.toNat = XG (n / 10).toNat ++ [48 + n % 10] := by
  rw [XG, if_neg (by omega)]
  congr 1
  · congr 1; omega
  · congr 1; omega
theorem can_of_fit {p ch M : Int} (h0 : 0 ≤ p) (h1 : p < 18446744073709551616) (h : Yp p ch M) : Can ch M p := by
  obtain ⟨hf, hl, hs⟩ := h
  unfold YF at hf
  refine ⟨hl, ?_, fun x hx => ⟨?_, hs x hx⟩⟩
  · unfold Qn at hl ⊢
    split
    · rename_i h3
      rw [pack_three (by unfold Z7; omega) (by unfold Z7; omega) (by unfold Z7; omega)]
      simp only
      omega
    · rename_i h3
      split
      · rename_i h4
        rw [pack_one (by unfold Z7; omega)]
        simp only
        omega
      · rename_i h4
        rw [if_neg h3, if_neg h4] at hl
        simp at hl
        omega
  · unfold Qn at hx
    split at hx
    · simp at hx; omega
    · split at hx
      · simp at hx; omega
      · simp at hx

theorem Decimal_spec (n : Int) (h0 : 0 ≤ n) (h1 : n ≤ 65535) : Fn Tryz.prog 118 #[.int .i64 n] [] (fun v l => ∃ s, v = .string s ∧ Xh s = XG n.toNat ∧ l = []) := by
 refine Qk (vs := [.int .i64 n]) Tryz.func118 rfl Tryz.ntmps118 rfl (Qb (Qa (Qe rfl rfl (WpL.nil (Qb (Qa (Qc rfl rfl (YV rfl rfl rfl (by omega) (by omega) ?_))))))))
 refine Qe rfl rfl (WpL.nil (Qb (Qb (Qa (Qc rfl rfl (Q7 rfl rfl rfl (WpL.nil (Qz rfl (by omega) ?_))))))))
 refine Wp.skip (Qb (Qa (Qc rfl rfl (QD rfl rfl rfl (Qu (by omega) (by omega)) ?_))))
 refine Yg rfl Tryz.underlying3 rfl (w_u8 (by omega) (by omega)) ?_
 refine Yb rfl rfl rfl rfl ?_
 intro g1
 rw [show ([.int .u8 (48 + n % 10)] : List Value) = Xr [48 + n % 10] from rfl]
 refine s_b2s (xs := [48 + n % 10]) rfl Tryz.underlying22 Tryz.underlying5 Tryz.underlying9 rfl rfl (Qe rfl rfl (WpL.nil (Qb (Qb (Qa (Qc rfl rfl (Zm rfl rfl rfl (Qc rfl rfl (Qx (dj := 18) rfl (decide_eq_true (by omega)) ?_)))))))))
 refine Qf rfl rfl (Qc rfl rfl (Qf rfl rfl (Q7 rfl rfl rfl (Qt rfl rfl rfl (WpL.nil (Ql rfl (fun h1 => ?_) (fun h1 => ?_)))))))
 ·refine Qb (Qb (Qa (Qc rfl rfl (Q7 rfl rfl rfl (WpL.nil (Qz rfl (by omega) ?_))))))
  refine Wp.skip (Qb (Qa (Qc rfl rfl (Qe rfl rfl (WpL.nil (Qi ?_))))))
  apply RetQ.mk
  ·exact (Res.one rfl rfl)
  ·exact ⟨_, rfl, by rw [Y8 (by intro x hx; simp at hx; omega), XG, if_pos (by omega)]; congr 1; omega, rfl⟩
  ·exact Ent.nil _
 ·refine Wp.skip (Qb (Qa (Qc rfl rfl (ZG rfl rfl rfl (by omega) (by omega) (Qu (by omega) (by omega)) ?_))))
  refine Qh rfl rfl (by repeat' constructor) (Decimal_spec (n / 10) (by omega) (by omega)) ?_
  rintro _ _ ⟨s1, rfl, hs1, rfl⟩
  simp only [Qr]
  have hsz1 : s1.size ≤ 65536 := by rw [← XS, hs1]; have := Yl (n / 10).toNat; omega
  refine Qc rfl rfl (Yo rfl rfl rfl (by rw [ZC]; simp; omega) ?_)
  refine Qe rfl rfl (WpL.nil (Qi ?_))
  apply RetQ.mk
  ·exact (Res.one rfl rfl)
  ·exact ⟨_, rfl, by rw [X0, hs1, Y8 (by intro x hx; simp at hx; omega), digs_rec (n := n) (by omega)], rfl⟩
  ·exact Ent.nil _
termination_by n.toNat
decreasing_by omega


theorem rFormat_spec (K W H M : Int) (hK : 1 ≤ K) (hK6 : K ≤ 6) : Fn Tryz.prog 57 #[.agg #[.int .i64 K, .int .i64 W, .int .i64 H, .int .i64 M]] [] (fun v l => v = .agg #[.int .i64 (QW K), .int .i64 M] ∧ l = []) := by
 refine Qk (vs := [.agg #[.int .i64 K, .int .i64 W, .int .i64 H, .int .i64 M]]) Tryz.func57 rfl Tryz.ntmps57 rfl (Qb (Qa (Q9 rfl rfl rfl ?_)))
 intro g1
 refine YE rfl ?_
 intro g2
 refine WpL.nil (Qb (Qb (Qa (Qj (o2 := 0) rfl rfl rfl (Qo rfl rfl (by rfl) ?_)))))
 refine QN rfl rfl rfl (Qc rfl rfl (QK rfl rfl rfl (fun hg1 => ?_) (fun hg1 => ?_)))
 ·have hg1 := of_decide_eq_false hg1
  refine Qj (o2 := 0) rfl rfl rfl (Qf rfl rfl (Qo rfl rfl (by rfl) ?_))
  refine Qf rfl rfl (QN rfl rfl rfl (Qs rfl rfl rfl (WpL.nil (Ql rfl (fun h0 => ?_) (fun h0 => ?_)))))
  ·refine Qb (Qa (Qj (o2 := 3) rfl rfl rfl (Qo rfl rfl (by rfl) ?_)))
   refine YI rfl rfl ?_
   refine XL rfl rfl rfl (by rfl) rfl ?_
   refine WpL.nil (Qi ?_)
   apply RetQ.mk
   ·exact (XO rfl rfl (by rfl))
   ·exact ⟨by rw [show QW K = 3 from if_pos (by omega)], rfl⟩
   ·exact Ent.nil _
  ·refine Wp.skip (Qb (Qa (Qj (o2 := 3) rfl rfl rfl (Qo rfl rfl (by rfl) ?_))))
   refine YI rfl rfl ?_
   refine XL rfl rfl rfl (by rfl) rfl ?_
   refine WpL.nil (Qi ?_)
   apply RetQ.mk
   ·exact (XO rfl rfl (by rfl))
   ·exact ⟨by rw [show QW K = 1 from if_neg (by omega)], rfl⟩
   ·exact Ent.nil _
 ·have hg1 := of_decide_eq_true hg1
  refine Qd rfl rfl rfl (by decide) (Qd rfl rfl rfl (by decide) (Qt rfl rfl rfl (WpL.nil (Xc rfl (Qb (Qa (Qj (o2 := 3) rfl rfl rfl (Qo rfl rfl (by rfl) ?_))))))))
  refine YI rfl rfl ?_
  refine XL rfl rfl rfl (by rfl) rfl ?_
  refine WpL.nil (Qi ?_)
  apply RetQ.mk
  ·exact (XO rfl rfl (by rfl))
  ·exact ⟨by rw [show QW K = 3 from if_pos (by omega)], rfl⟩
  ·exact Ent.nil _

theorem pack_bd {xs : List Int} (h : xs.length = 1 ∨ xs.length = 3) (hs : ∀ n ∈ xs, Z7 n) : 0 ≤ (Xx xs).1 ∧ (Xx xs).1 < 18446744073709551616 := by
  have := packF_all (l := xs) (by omega) hs
  rw [packS_ok xs h hs]
  simp only
  omega
end Go.Proofs.YtggamdlpiejbiaaGreat
namespace Go.Proofs.YtggamdlpiejbiaaGreat
open Go.RowKit Go.Shelf


/-- A number's digits, the lowest first. -/
def Zu (b n : Nat) : List Int := if _h : n < b ∨ b < 2 then [((n % b : Nat) : Int)] else ((n % b : Nat) : Int) :: Zu b (n / b)
termination_by n
decreasing_by exact Nat.div_lt_self (by omega) (by omega)
theorem lowD_lt {b n : Nat} (h : n < b) : Zu b n = [((n % b : Nat) : Int)] := by rw [Zu, dif_pos (.inl h)]
theorem lowD_ge {b n : Nat} (h : b ≤ n) (hb : 2 ≤ b) : Zu b n = ((n % b : Nat) : Int) :: Zu b (n / b) := by rw [Zu, dif_neg (by omega)]
theorem lowD_head (b n : Nat) : ∃ t, Zu b n = ((n % b : Nat) : Int) :: t := by
  rw [Zu]
  split
  · exact ⟨_, rfl⟩
  · exact ⟨_, rfl⟩
theorem lowD_bd {b : Nat} (hb : 0 < b) (n : Nat) : ∀ x ∈ Zu b n, 0 ≤ x ∧ x < b := by
  induction n using Nat.strongRecOn with
  | _ n ih =>
    intro x hx
    have hm := Nat.mod_lt n hb
    rw [Zu] at hx
    split at hx
    · simp only [List.mem_singleton] at hx; subst hx; omega
    · rcases List.mem_cons.1 hx with rfl | hx
      · omega
      · exact ih (n / b) (Nat.div_lt_self (by omega) (by omega)) x hx
theorem drop_at0 {xs : List Int} {k : Nat} {x : Int} {t : List Int} (h : xs.drop k = x :: t) : ∃ hk : k < xs.length, xs[k] = x ∧ xs.drop (k + 1) = t := by
  have hk : k < xs.length := by
    have := congrArg List.length h
    simp at this; omega
  rw [List.drop_eq_getElem_cons hk] at h
  injection h with h1 h2
  exact ⟨hk, h1, h2⟩
theorem lowD_digs (n : Nat) : XG n = ((Zu 10 n).map fun x => 48 + x).reverse := by
  induction n using Nat.strongRecOn with
  | _ n ih =>
    by_cases h : n < 10
    · rw [lowD_lt h, XG, if_pos (by omega)]
      simp; omega
    · rw [lowD_ge (by omega) (by omega), XG, if_neg (by omega), ih (n / 10) (by omega)]
      simp
theorem lowD_len20 {b n : Nat} (hb : 10 ≤ b) (k : Nat) (h : n < 10 ^ (k + 1)) : (Zu b n).length ≤ k + 1 := by
  induction k generalizing n with
  | zero =>
    rw [lowD_lt (by omega)]; simp
  | succ k ih =>
    by_cases h2 : n < b
    · rw [lowD_lt h2]; simp
    · rw [lowD_ge (by omega) (by omega)]
      have : n / b < 10 ^ (k + 1) := by
        apply Nat.div_lt_of_lt_mul
        calc n < 10 ^ (k + 1 + 1) := h
          _ = 10 * 10 ^ (k + 1) := by rw [Nat.pow_succ]; omega
          _ ≤ b * 10 ^ (k + 1) := Nat.mul_le_mul_right _ hb
      have := ih this
      simp; omega
structure DgX where
  (k n : Nat) (m : List HP)

theorem digitsF_spec (b n : Nat) (hb : 2 ≤ b) (hb2 : b ≤ 256) (hn : n < 18446744073709551616) (g1 g2 y : Nat) (J Jx : Nat → List HP → Prop) (hY : ∀ k (h : k < (Zu b n).length) m, J k m → Yld Tryz.prog y ([.int .u8 (Zu b n)[k]] : List Value).toArray m (rdR J Jx k)) (m0 : List HP) (h0 : J 0 m0) : Fn Tryz.prog 197 #[.func (.yield y) #[] #[], .pointer (some ⟨g1, 0, none⟩), .pointer (some ⟨g2, 0, none⟩)] (QA g1 [.int .u64 (n : Int)] 91 :: QA g2 [.int .u64 (b : Int)] 91 :: m0) (fun _ l => ∃ m', (J (Zu b n).length m' ∨ ∃ k, k < (Zu b n).length ∧ Jx k m') ∧ l = m') := by
 refine Qk (vs := [.func (.yield y) #[] #[], .pointer (some ⟨g1, 0, none⟩), .pointer (some ⟨g2, 0, none⟩)]) Tryz.func197 rfl Tryz.ntmps197 rfl ?_
 refine Wp.block ?_
 refine Wp.loopD (σ := DgX) (fun x => J x.k x.m ∧ (Zu b n).drop x.k = Zu b x.n ∧ x.n < 18446744073709551616) [4, 5, 6, 7, 8, 9, 10, 11, 12, 13, 14, 15, 16, 17] (fun x => []) (fun x => (QA g1 [.int .u64 ((x.n : Nat) : Int)] 91 :: QA g2 [.int .u64 (b : Int)] 91 :: x.m)) (fun x => x.n) ⟨0, n, m0⟩ ?_ (by repeat (exact FrLe.nil)) ?_ ?_
 ·exact ⟨h0, rfl, hn⟩
 ·exact Ent.refl _
 ·rintro ⟨k, n1, m1⟩ ⟨hJ, hd, hn1⟩
  dsimp only at hJ hd hn1 ⊢
  obtain ⟨t1, ht1⟩ := lowD_head b n1
  obtain ⟨hk, hxk, hdk⟩ := drop_at0 (hd.trans ht1)
  have hbpos : (0 : Int) < (b : Int) := by omega
  have hmod := Nat.mod_lt n1 (show 0 < b by omega)
  have hY1 := hY k hk m1 hJ
  rw [hxk] at hY1
  refine Qb (Qb (Qa (Qc rfl rfl (Qo rfl rfl (by rfl) ?_))))
  refine Qo rfl rfl (by rfl) ?_
  refine YV rfl rfl rfl (by omega) (by omega) ?_
  rw [show ((n1 : Int) % (b : Int)) = ((n1 % b : Nat) : Int) from rfl]
  refine Yg rfl Tryz.underlying91 rfl (w_u8 (by omega) (by omega)) ?_
  refine s_yield rfl rfl rfl rfl (by repeat (first | exact Take.all | apply Take.skip)) (hY1) ?_
  rintro v m' (⟨rfl, hm'⟩ | ⟨rfl, hm'⟩)
  ·simp only [Qr]
   refine Qc rfl rfl (Qf rfl rfl (Qo rfl rfl (by rfl) ?_))
   refine Qf rfl rfl (Qo rfl rfl (by rfl) ?_)
   refine Qf rfl rfl (s_ge rfl rfl rfl (Qt rfl rfl rfl (WpL.nil (Ql rfl (fun h1 => ?_) (fun h1 => ?_)))))
   ·refine Wp.skip (Wp.block ?_)
    refine Qa (Qo rfl rfl (by rfl) ?_)
    refine Qo rfl rfl (by rfl) ?_
    refine ZG rfl rfl rfl (by omega) (by omega) (Z6 (Int.ediv_nonneg (by omega) (by omega)) (by have := Nat.div_le_self n1 b; have e : ((n1 : Int) / (b : Int)) = ((n1 / b : Nat) : Int) := rfl; omega)) ?_
    refine Q3 rfl rfl rfl (WpL.nil (Qv (Q := fun _ _ _ _ => False) (⟨k + 1, n1 / b, m'⟩ : DgX) ?_ ?_ (by ((repeat (first | exact Top.refl | refine Top.push rfl ?_)); done)) (by repeat (exact FrLe.nil)) ?_))
    ·refine ⟨hm', ?_, Nat.lt_of_le_of_lt (Nat.div_le_self _ _) hn1⟩
     rw [hdk]
     rw [lowD_ge (by omega) hb] at ht1
     injection ht1 with _ ht1
     exact ht1.symm
    ·exact Nat.div_lt_self (by omega) (by omega)
    ·exact Ent.refl _
   ·refine QM ?_
    apply YK
    ·exact (XZ rfl)
    ·exact ⟨m', .inl (by rw [show (Zu b n).length = k + 1 from by have e1 := congrArg List.length hdk; rw [lowD_lt (by omega)] at ht1; injection ht1 with _ ht1; rw [← ht1] at e1; simp at e1; omega]; exact hm'), rfl⟩
    ·(repeat (first | exact Ent.refl _ | refine Ent.drop ?_))
  ·simp only [Qr]
   refine Qc rfl rfl (Qd rfl rfl rfl (by decide) (Qd rfl rfl rfl (by decide) (Qd rfl rfl rfl (by decide) (Qs rfl rfl rfl (WpL.nil (QZ rfl (QM ?_)))))))
   apply YK
   ·exact (XZ rfl)
   ·exact ⟨m', .inr ⟨k, hk, hm'⟩, rfl⟩
   ·(repeat (first | exact Ent.refl _ | refine Ent.drop ?_))


structure RvX where
  (k : Nat) (ys : List Int)
def revK (xs : List Int) (k : Nat) (ys : List Int) : Prop := ys.length = xs.length ∧ ∀ i, i < xs.length → ys[i]? = if i < k ∨ xs.length ≤ i + k then xs[xs.length - 1 - i]? else xs[i]?
theorem revK_zero (xs : List Int) : revK xs 0 xs := ⟨rfl, fun i hi => by rw [if_neg (by omega)]⟩
theorem revK_done {xs ys : List Int} {k : Nat} (h : revK xs k ys) (hk : xs.length ≤ 2 * k + 1) : ys = xs.reverse := by
  apply List.ext_getElem?
  intro i
  by_cases hi : i < xs.length
  · rw [h.2 i hi, List.getElem?_reverse hi]
    split
    · rfl
    · rename_i hc
      rw [show xs.length - 1 - i = i by omega]
  · rw [List.getElem?_eq_none (by rw [h.1]; omega), List.getElem?_eq_none (by simp; omega)]
theorem revK_step {xs ys : List Int} {k : Nat} (h : revK xs k ys) (hk : 2 * k + 1 < xs.length) (h1 : xs.length - 1 - k < ys.length) (h2 : k < ys.length) : revK xs (k + 1) ((ys.set k ys[xs.length - 1 - k]).set (xs.length - 1 - k) ys[k]) := by
  have e1 : ys[k] = xs[k]'(by omega) := by
    have := h.2 k (by omega)
    rw [if_neg (by omega), List.getElem?_eq_getElem h2, List.getElem?_eq_getElem (by omega)] at this
    exact Option.some.inj this
  have e2 : ys[xs.length - 1 - k] = xs[xs.length - 1 - k]'(by omega) := by
    have := h.2 (xs.length - 1 - k) (by omega)
    rw [if_neg (by omega), List.getElem?_eq_getElem h1, List.getElem?_eq_getElem (by omega)] at this
    exact Option.some.inj this
  refine ⟨by simp [h.1], fun i hi => ?_⟩
  rw [List.getElem?_set, List.getElem?_set]
  simp only [List.length_set]
  by_cases a : xs.length - 1 - k = i
  · subst a
    rw [if_pos rfl, if_pos h1, if_pos (by omega), e1, show xs.length - 1 - (xs.length - 1 - k) = k by omega, List.getElem?_eq_getElem (by omega)]
  · rw [if_neg a]
    by_cases b : k = i
    · subst b
      rw [if_pos rfl, if_pos h2, if_pos (by omega), e2, List.getElem?_eq_getElem (by omega)]
    · rw [if_neg b, h.2 i hi]
      by_cases c : i < k ∨ xs.length ≤ i + k
      · rw [if_pos c, if_pos (by omega)]
      · rw [if_neg c, if_neg (by omega)]
theorem set_map {α : Type} (f : Int → α) (xs : List Int) (k : Nat) (x : Int) : (xs.map f).set k (f x) = (xs.set k x).map f := (List.map_set ..).symm
theorem u8s_set (xs : List Int) (k : Nat) (x : Int) : (Xr xs).set k (.int .u8 x) = Xr (xs.set k x) := set_map _ xs k x
theorem RevB_spec (a : Option Addr) (c : Nat) (xs : List Int) (hm : xs.length ≤ 140737488355328) : Fn Tryz.prog 178 #[.slice a xs.length c] [QG 5 1 a c xs.length (Xr xs)] (fun _ l => l = [QG 5 1 a c xs.length (Xr xs.reverse)]) := by
 refine Qk (vs := [.slice a xs.length c]) Tryz.func178 rfl Tryz.ntmps178 rfl (Qb (Qa (Qc rfl rfl (QC rfl rfl (ZQ rfl rfl rfl (Qu (by omega) (by omega)) ?_)))))
 refine Qe rfl rfl (Qe rfl rfl (WpL.nil (Wp.block ?_)))
 refine Wp.loopD (σ := RvX) (fun x => 2 * x.k ≤ xs.length ∧ revK xs x.k x.ys) [2, 3, 7, 8, 9, 10, 11, 12, 13, 14, 15, 16, 17, 18, 19, 20, 21, 22, 23, 24, 25, 26, 27] (fun x => [(2, .int .i64 (x.k : Int)), (3, .int .i64 ((xs.length : Int) - 1 - x.k))]) (fun x => [QG 5 1 a c xs.length (Xr x.ys)]) (fun x => xs.length - x.k) ⟨0, xs⟩ ?_ (FrLe.cons rfl (FrLe.cons (by simp [lk]) FrLe.nil)) ?_ ?_
 ·exact ⟨by simp, revK_zero xs⟩
 ·exact Ent.refl _
 ·rintro ⟨k, ys⟩ ⟨hk, hr⟩
  dsimp only at hk hr ⊢
  have hyl := hr.1
  refine Qb (Qb (Qa (Qc rfl rfl (Qc rfl rfl (Q7 rfl rfl rfl (WpL.nil (Ql rfl (fun h1 => ?_) (fun h1 => ?_))))))))
  ·have h1 : xs.length - 1 - k < ys.length := by omega
   have h2 : k < ys.length := by omega
   refine Wp.skip (Qb (Wp.block ?_))
   apply Xs (fB := []) mixed [(13, false), (1, false)] (by kernel_rfl)
   apply Xk [⟨0, 14, _, [], false⟩, ⟨1, 15, _, [], false⟩, ⟨2, 16, _, [], true⟩, ⟨3, 17, _, [], true⟩, ⟨4, 18, _, [], false⟩, ⟨5, 19, _, [], false⟩, ⟨6, 20, _, [4, 5], false⟩, ⟨7, 21, _, [6], false⟩, ⟨8, 22, _, [], false⟩, ⟨9, 23, _, [], false⟩, ⟨10, 24, _, [8, 9], false⟩, ⟨11, 25, _, [10], false⟩, ⟨12, 26, _, [0, 1, 4, 5, 6, 7, 11], false⟩] [] [0, 1, 4, 5, 6, 7, 8, 9, 10, 11, 12] [27, 16, 17] (.inl ⟨_, .nil⟩) rfl rfl rfl (by kernel_rfl) rfl rfl rfl
   ·refine AllF.cons rfl rfl rfl rfl ?_ ?_
    ·exact Qc rfl rfl (Qm rfl)
    refine AllF.cons rfl rfl rfl rfl ?_ ?_
    ·exact Qc rfl rfl (Qm rfl)
    refine XQ rfl rfl rfl rfl ?_ ?_
    ·exact Qc rfl rfl (Qm rfl)
    refine XQ rfl rfl rfl rfl ?_ ?_
    ·exact Qc rfl rfl (Qm rfl)
    refine AllF.cons rfl rfl rfl rfl ?_ ?_
    ·exact Qc rfl rfl (Qm rfl)
    refine AllF.cons rfl rfl rfl rfl ?_ ?_
    ·exact Qc rfl rfl (Qm rfl)
    refine AllF.cons rfl rfl rfl rfl ?_ ?_
    ·refine Q4 (xs.length - 1 - k) rfl rfl rfl QE (by exact Take.ent' (by repeat' constructor)) (by omega) (by omega) (by rw [Xa]; omega) ?_
     exact Qm rfl
    refine AllF.cons rfl rfl rfl rfl ?_ ?_
    ·refine Q5 rfl rfl QE (by exact Take.ent' (by repeat' constructor)) (Zn ys h1) ?_
     exact Qm rfl
    refine AllF.cons rfl rfl rfl rfl ?_ ?_
    ·exact Qc rfl rfl (Qm rfl)
    refine AllF.cons rfl rfl rfl rfl ?_ ?_
    ·exact Qc rfl rfl (Qm rfl)
    refine AllF.cons rfl rfl rfl rfl ?_ ?_
    ·refine Q4 k rfl rfl rfl QE (by exact Take.ent' (by repeat' constructor)) rfl (by omega) (by rw [Xa]; omega) ?_
     exact Qm rfl
    refine AllF.cons rfl rfl rfl rfl ?_ ?_
    ·refine Q5 rfl rfl QE (by exact Take.ent' (by repeat' constructor)) (Zn ys h2) ?_
     exact Qm rfl
    refine AllF.cons rfl rfl rfl rfl ?_ ?_
    ·refine Q4 k rfl rfl rfl QE (by exact Take.ent' (by repeat' constructor)) rfl (by omega) (by rw [Xa]; omega) ?_
     exact Qm rfl
    exact AllF.nil
   ·refine s_sto rfl rfl rfl (by repeat' constructor) (by rw [Xa]; omega) ?_
    refine WpL.nil ⟨rfl, rfl, ?_⟩
    apply Xk [⟨14, 27, _, [0, 1, 2, 3, 4, 5, 6, 7, 8, 9, 10, 11, 12, 13], false⟩] [2, 3] [2, 3, 14] [] (.inl ⟨_, .nil⟩) rfl rfl rfl (by kernel_rfl) rfl rfl rfl
    ·refine AllF.cons rfl rfl rfl rfl ?_ ?_
     ·refine Q4 (xs.length - 1 - k) rfl rfl rfl QE (by exact Take.ent' (by repeat' constructor)) (by omega) (by omega) (by rw [List.length_set, Xa]; omega) ?_
      exact Qm rfl
     exact AllF.nil
    ·refine s_sto rfl rfl rfl (by repeat' constructor) (by rw [List.length_set, Xa]; omega) ?_
     refine WpL.nil ⟨rfl, rfl, ?_⟩
     apply GoR.nil [] (.inr rfl) rfl rfl
     ·exact AllF.nil
     ·refine Qa (Qc rfl rfl (QD rfl rfl rfl (Qu (by omega) (by omega)) ?_))
      refine Qc rfl rfl (ZQ rfl rfl rfl (Qu (by omega) (by omega)) ?_)
      refine Qe rfl rfl (Qe rfl rfl (WpL.nil (Qv (⟨k + 1, (ys.set k (ys[xs.length - 1 - k]'h1)).set (xs.length - 1 - k) (ys[k]'h2)⟩ : RvX) ?_ ?_ (by ((repeat (first | exact Top.refl | refine Top.push rfl ?_)); done)) (FrLe.cons rfl (FrLe.cons (congrArg (fun x => some (Value.int .i64 x)) (show ((xs.length : Int) - 1 - (k : Int) - 1) = (xs.length : Int) - 1 - ((k + 1 : Nat) : Int) by omega)) FrLe.nil)) ?_)))
      ·exact ⟨by simp only; omega, revK_step hr (by omega) h1 h2⟩
      ·simp only; omega
      ·rw [u8s_set, u8s_set]; exact Ent.refl _
  ·refine QM ?_
   have he := revK_done hr (by omega)
   subst he
   apply YK
   ·exact (XZ rfl)
   ·exact rfl
   ·exact Ent.refl _

theorem digitsM_spec (n b : Int) : Fn Tryz.prog 177 #[.int .u64 n, .int .u64 b] [] (fun v l => ∃ g1 g2, v = .func (.func 197) #[] #[.pointer (some ⟨g1, 0, none⟩), .pointer (some ⟨g2, 0, none⟩)] ∧ l = [QA g1 [.int .u64 n] 91, QA g2 [.int .u64 b] 91]) := by
 refine Qk (vs := [.int .u64 n, .int .u64 b]) Tryz.func177 rfl Tryz.ntmps177 rfl (Qb (Qa (Q9 rfl rfl rfl ?_)))
 intro g1
 refine Q9 rfl rfl rfl ?_
 intro g2
 refine Qe rfl rfl (WpL.nil (Qb (Qa (s_mkf rfl (fun a hh => X6 hh _ _ rfl) ?_))))
 refine Qe rfl rfl (WpL.nil (Qi ?_))
 apply RetQ.mk
 ·exact (Res.one rfl rfl)
 ·exact ⟨_, _, rfl, rfl⟩
 ·exact Take.ent' (by repeat' constructor)


theorem map_take_snoc {f : Int → Int} (xs : List Int) {k : Nat} (h : k < xs.length) : (xs.take k).map f ++ [f xs[k]] = (xs.take (k + 1)).map f := by
  rw [Xd xs h, List.map_append]; rfl
theorem digs_bd (n : Nat) : ∀ x ∈ XG n, 48 ≤ x ∧ x ≤ 57 := by
  intro x hx
  rw [lowD_digs, List.mem_reverse, List.mem_map] at hx
  obtain ⟨y, hy, rfl⟩ := hx
  have := lowD_bd (b := 10) (by omega) n y hy
  omega

theorem Zz (n : Int) (h0 : 0 ≤ n) (h1 : n < 9223372036854775808) : Fn Tryz.prog 135 #[.int .i64 n] [] (fun v l => v = .string (strOfNums (XG n.toNat)) ∧ l = []) := by
 have hlen := lowD_len20 (b := 10) (n := n.toNat) (by omega) 18 (by omega)
 refine Qk (vs := [.int .i64 n]) Tryz.func135 rfl Tryz.ntmps135 rfl (Qb (Qa (Qe rfl rfl (WpL.nil (Qb (Qa (Qc rfl rfl (Yg rfl Tryz.underlying3 rfl (Z6 (by omega) (by omega)) ?_))))))))
 refine Qe rfl rfl (WpL.nil (Qb (Qa (YE rfl ?_))))
 intro g3
 refine WpL.nil (Qb (Qb (Qa (Qc rfl rfl (Q7 rfl rfl rfl (WpL.nil (Qz rfl (by omega) ?_)))))))
 refine Wp.skip (Qb (Qb (Qa (Qc rfl rfl (Qh rfl rfl (by repeat' constructor) (digitsM_spec _ _) ?_)))))
 rintro _ _ ⟨g1, g2, rfl, rfl⟩
 simp only [Qr]
 refine WpL.nil (Wp.block ?_)
 refine Wp.rangeF (encs := fun (x : Int) => [Value.int .u8 x]) (xs := Zu 10 n.toNat) (QG := [QA g1 [.int .u64 n] 91, QA g2 [.int .u64 10] 91]) (own' := []) (m0 := [QA g3 [.slice none 0 0] 22, QG 5 1 none 0 0 []]) rfl rfl (fun y J Jx hY m h0 => (show n = ((n.toNat : Nat) : Int) by omega) ▸ digitsF_spec 10 n.toNat (by omega) (by omega) (by omega) g1 g2 y J Jx hY m h0) (fun _ => rfl) rfl (fun k m => ∃ a c, m = [QA g3 [.slice a k c] 22, QG 5 1 a c k (Xr (((Zu 10 n.toNat).take k).map fun x => 48 + x))]) (fun _ _ _ => False) ?_ ?_ ?_ ?_ ?_
 ·exact ⟨none, 0, rfl⟩
 ·exact (Ent.own_nil (T := 5) (s := 1) (Ent.refl _)).trans (Take.ent' (by repeat' constructor))
 ·intro y k hk m hm
  obtain ⟨a1, c1, rfl⟩ := hm
  refine Qa (Qe rfl rfl (WpL.nil (⟨rfl, rfl, ?_⟩)))
  have hx := lowD_bd (b := 10) (by omega) n.toNat (Zu 10 n.toNat)[k] (List.getElem_mem hk)
  refine Wp.block ?_
  refine Qa (Qo rfl rfl (by rfl) ?_)
  refine Qc rfl rfl (QD rfl rfl rfl (w_u8 (by omega) (by omega)) ?_)
  refine Yb rfl rfl rfl rfl ?_
  intro g2
  refine XA rfl rfl rfl (by repeat' constructor) (by rfl) (by rfl) (by rfl) (by rfl) (by omega) (by omega) ?_
  intro a19 c19
  refine Q3 rfl rfl rfl (WpL.nil ?_)
  rw [YJ, map_take_snoc (f := fun x => 48 + x) _ hk]
  exact ⟨_, ⟨a19, c19, rfl⟩, by exact Take.ent' (by repeat' constructor)⟩
 ·intro q1 m hm
  obtain ⟨a1, c1, rfl⟩ := hm
  simp only [Qr]
  rw [List.take_length, show (Zu 10 n.toNat).length = ((Zu 10 n.toNat).map fun x => 48 + x).length from by simp]
  refine Qb (Qb (Qa (Qc rfl rfl (Q7 rfl rfl rfl (WpL.nil (Qz rfl (by omega) ?_))))))
  refine Wp.skip (Qb (Qa (Qo rfl rfl (by rfl) ?_)))
  refine Qh rfl rfl (by repeat' constructor) (RevB_spec _ _ _ (by simp; omega)) ?_
  rintro _ _ rfl
  simp only [Qr]
  refine WpL.nil (Qb (Qa (Qo rfl rfl (by rfl) ?_)))
  rw [← lowD_digs]
  refine s_b2so rfl Tryz.underlying22 Tryz.underlying5 Tryz.underlying9 rfl (by repeat' constructor) ?_
  refine Qe rfl rfl (WpL.nil (Qi ?_))
  apply RetQ.mkR [q1] rfl (by repeat' constructor)
  ·exact (Res.one rfl rfl)
  ·exact ⟨rfl, rfl⟩
  ·exact Ent.nil _
 ·exact fun _ _ _ _ _ h => h.elim


end Go.Proofs.YtggamdlpiejbiaaGreat
namespace Go.Proofs.YtggamdlpiejbiaaGreat
open Go.RowKit Go.Shelf

theorem take_all {xs : List Int} {k : Nat} {mx : Int} (h : ∀ x ∈ xs.take k, x ≤ mx) (hlt : k < xs.length) (hx : xs[k] ≤ mx) : ∀ x ∈ xs.take (k + 1), x ≤ mx := by
  intro x hxm
  rw [Xd xs hlt] at hxm
  rcases List.mem_append.1 hxm with hxm | hxm
  · exact h x hxm
  · have := List.mem_singleton.1 hxm; subst this; exact hx

theorem rFits_spec (p ch mx : Int) (h0 : 0 ≤ p) (h1 : p < 18446744073709551616) : Fn Tryz.prog 98 #[.int .u64 p, .agg #[.int .i64 ch, .int .i64 mx]] [] (fun v l => v = .bool (decide (Yp p ch mx)) ∧ l = []) := by
 have hul := XD p
 refine Qk (vs := [.int .u64 p, .agg #[.int .i64 ch, .int .i64 mx]]) Tryz.func98 rfl Tryz.ntmps98 rfl (Qb (Qa (Q9 rfl rfl rfl ?_)))
 intro g1
 refine Qe rfl rfl (WpL.nil (Qb (Qa (Qc rfl rfl (Qh rfl rfl (by repeat' constructor) (Vh _ (by omega) (by omega)) ?_)))))
 rintro _ _ ⟨A1, a1, c1, rfl, rfl, hA1, hn1⟩
 simp only [Qr]
 refine Qe rfl rfl (WpL.nil (Qb (Qb (Qa (Qe rfl rfl (WpL.nil (Wp.block ?_)))))))
 refine Wp.loopD (σ := Nat) (fun k => k ≤ (Qn p).length ∧ ∀ x ∈ (Qn p).take k, x ≤ mx) [4, 6, 10, 11, 12, 13, 14, 15, 16, 17, 18, 19, 20, 21, 22] (fun k => [(6, .int .i64 (k : Int))]) (fun k => [A1, QA g1 [.int .i64 ch, .int .i64 mx] 48]) (fun k => (Qn p).length - k) 0 ?_ (by repeat (first | exact FrLe.nil | refine FrLe.cons rfl ?_)) ?_ ?_
 ·exact ⟨Nat.zero_le _, by simp⟩
 ·exact Ent.refl _
 ·rintro k ⟨hk, hall⟩
  refine Qb (Qb (Qa (Qc rfl rfl (Qc rfl rfl (QC rfl rfl (Q7 rfl rfl rfl (WpL.nil (Ql rfl (fun h1 => ?_) (fun h1 => ?_)))))))))
  ·have hlt : k < (Qn p).length := by omega
   refine Wp.skip (Qb (Wp.block ?_))
   refine Qb ?_
   apply Q0 mixed [⟨16, _, []⟩, ⟨17, _, []⟩, ⟨18, _, [0, 1]⟩, ⟨19, _, [2]⟩, ⟨20, _, []⟩, ⟨21, _, [4]⟩, ⟨22, _, [3, 5]⟩] rfl
   ·refine AllObs.mk ?_ ?_
    ·exact Qc rfl rfl (Qm rfl)
    refine AllObs.mk ?_ ?_
    ·exact Qc rfl rfl (Qm rfl)
    refine AllObs.mk ?_ ?_
    ·refine Q4 k rfl rfl rfl hA1 (by exact Take.ent' (by repeat' constructor)) rfl (by omega) (by rw [QT]; omega) ?_
     exact Qm rfl
    refine AllObs.mk ?_ ?_
    ·refine Q5 rfl rfl hA1 (by exact Take.ent' (by repeat' constructor)) (Xi (Qn p) hlt) ?_
     exact Qm rfl
    refine AllObs.mk ?_ ?_
    ·exact Qj (o2 := 1) rfl rfl rfl (Qm rfl)
    refine AllObs.mk ?_ ?_
    ·refine Qo rfl rfl (by rfl) ?_
     exact Qm rfl
    refine AllObs.mk ?_ ?_
    ·exact Zm rfl rfl rfl (Qm rfl)
    exact AllObs.nil
   ·refine Ql rfl (fun h2 => ?_) (fun h2 => ?_)
    ·refine Qb (Qa (Qe rfl rfl (WpL.nil (Qi ?_))))
     skip
     apply RetQ.mk
     ·exact (Res.one rfl rfl)
     ·exact ⟨congrArg Value.bool (df (fun hf => by have := hf.2.2 _ (List.getElem_mem hlt); omega)), rfl⟩
     ·exact Ent.nil _
    ·refine Wp.skip (Qa (Qc rfl rfl (QD rfl rfl rfl (Qu (by omega) (by omega)) ?_)))
     refine Qe rfl rfl (WpL.nil (Qv (k + 1) ?_ ?_ (by ((repeat (first | exact Top.refl | refine Top.push rfl ?_)); done)) (by repeat (first | exact FrLe.nil | refine FrLe.cons rfl ?_)) ?_))
     ·exact ⟨by omega, take_all hall hlt (by omega)⟩
     ·omega
     ·exact Ent.refl _
  ·refine QM (Qb (Qa ?_))
   refine QI (vs := [_, _]) rfl rfl rfl (by rfl) ?_
   refine Qh rfl rfl (by repeat' constructor) (rFormat1_spec _ _) ?_
   rintro _ _ ⟨rfl, rfl⟩
   simp only [Qr]
   refine Qe rfl rfl (WpL.nil (Qb (Qa (Qc rfl rfl (Qc rfl rfl (QK rfl rfl rfl (fun hg1 => ?_) (fun hg1 => ?_)))))))
   ·have hg1 := of_decide_eq_true hg1
    refine Qc rfl rfl (Qf rfl rfl (QC rfl rfl (Qf rfl rfl (Qj (o2 := 0) rfl rfl rfl (Qf rfl rfl (Qo rfl rfl (by rfl) ?_))))))
    refine Qf rfl rfl (QN rfl rfl rfl (Qt rfl rfl rfl (Qe rfl rfl (WpL.nil (Qi ?_)))))
    skip
    apply RetQ.mk
    ·exact (Res.one rfl rfl)
    ·refine ⟨congrArg Value.bool ?_, rfl⟩
     have hke : k = (Qn p).length := by omega
     rw [hke, List.take_length] at hall
     exact dd ⟨fun h => ⟨by assumption, h, hall⟩, fun h => h.2.1⟩
    ·exact Ent.nil _
   ·have hg1 := of_decide_eq_false hg1
    refine Qd rfl rfl rfl (by decide) (Qd rfl rfl rfl (by decide) (Qd rfl rfl rfl (by decide) (Qd rfl rfl rfl (by decide) (Qs rfl rfl rfl (Qe rfl rfl (WpL.nil (Qi ?_)))))))
    skip
    apply RetQ.mk
    ·exact (Res.one rfl rfl)
    ·refine ⟨congrArg Value.bool ?_, rfl⟩
     have hke : k = (Qn p).length := by omega
     rw [hke, List.take_length] at hall
     exact df (fun hf => absurd hf.1 (by assumption))
    ·exact Ent.nil _


theorem chK_or (K : Int) : QW K = 1 ∨ QW K = 3 := by unfold QW; split <;> simp
def WrP (K W H M : Int) (px : List Int) : Prop := Zi K W H M ∧ (px.length : Int) = W * H ∧ ∀ p ∈ px, Yp p (QW K) M
/-- What stands behind j samples. -/
def pj (xs : List Int) (j : Nat) : List Int := if j = xs.length then X9 xs else (xs.take j).flatMap fun x => XG x.toNat ++ [32]
theorem pj_zero {xs : List Int} : pj xs 0 = [] := by
  unfold pj
  split
  · rename_i h; rw [List.eq_nil_of_length_eq_zero h.symm]; rfl
  · rfl
theorem pj_more {xs : List Int} (_h3 : xs.length = 1 ∨ xs.length = 3) {j : Nat} (hj : j + 1 < xs.length) : pj xs j ++ XG (xs[j]).toNat ++ [32] = pj xs (j + 1) := by
  unfold pj
  rw [if_neg (by omega), if_neg (by omega), Xd xs (by omega), List.flatMap_append]
  simp
theorem pj_end {xs : List Int} (h3 : xs.length = 1 ∨ xs.length = 3) {j : Nat} (hj : j + 1 = xs.length) : pj xs j ++ XG (xs[j]'(by omega)).toNat = pj xs (j + 1) := by
  match xs, h3 with
  | [x], _ =>
    have : j = 0 := by simpa using hj
    subst this
    simp [pj, X9]
  | [x, y, z], _ =>
    have : j = 2 := by simpa using hj
    subst this
    simp [pj, X9]
  | [_, _], h => simp at h
  | _ :: _ :: _ :: _ :: _, h => simp at h
theorem pj_all {xs : List Int} : pj xs xs.length = X9 xs := if_pos rfl
theorem wr_take {K W : Int} {px : List Int} {k : Nat} (h : k < px.length) : wrL K W 0 (px.take (k + 1)) = wrL K W 0 (px.take k) ++ (X9 (Qn px[k]) ++ if nlB K W k = true then [10] else []) := by
  rw [Xd px h, wrL_snoc]
  simp only [pxB, Nat.zero_add, List.length_take, show min k px.length = k by omega]
theorem nl_t {K W : Int} {k : Nat} (h : K > 1 ∨ (k : Int) % W = W - 1 ∨ (k : Int) % W % 70 = 69) {b bs : List Int} (e : bs = b) : b ++ [10] = bs ++ (if nlB K W k = true then [10] else []) := by
  rw [show nlB K W k = true from decide_eq_true h, if_pos rfl, e]
theorem nl_f {K W : Int} {k : Nat} (h1 : ¬ K > 1) (h2 : ¬ (k : Int) % W = W - 1) (h3 : ¬ (k : Int) % W % 70 = 69) {b bs : List Int} (e : bs = b) : b = bs ++ (if nlB K W k = true then [10] else []) := by
  rw [show nlB K W k = false from decide_eq_false (by omega), e]; simp
structure WrX where
  (k : Nat) (s : ByteArray)

set_option maxHeartbeats 4000000 in
theorem rWrite_spec (A0 : HP) (a0 : Option Addr) (c0 : Nat) (px : List Int) (hA : RdsL [A0] a0 (Xp px)) (hr : ∀ p ∈ px, 0 ≤ p ∧ p < 18446744073709551616) (hl : px.length ≤ 300000) (K W H M : Int) : Fn Tryz.prog 69 #[.slice a0 px.length c0, .agg #[.int .i64 K, .int .i64 W, .int .i64 H, .int .i64 M]] [A0] (fun v l => ∃ s e, v = .tuple #[.string s, .int .i64 e] ∧ ((WrP K W H M px ∧ e = 0 ∧ Xh s = wrL K W 0 px ∧ s.size ≤ px.length * 300000) ∨ (¬ WrP K W H M px ∧ e = 1 ∧ s = ⟨#[]⟩)) ∧ l = [A0]) := by
 refine Qk (vs := [.slice a0 px.length c0, .agg #[.int .i64 K, .int .i64 W, .int .i64 H, .int .i64 M]]) Tryz.func69 rfl Tryz.ntmps69 rfl (Qb (Qa (Q9 rfl rfl rfl ?_)))
 intro g1
 refine Qe rfl rfl (Qe rfl rfl (WpL.nil (Qb (Qa ?_))))
 refine QI (vs := [_, _, _, _]) rfl rfl rfl (by rfl) ?_
 refine Qh rfl rfl (by repeat' constructor) (rMay_spec _ _ _ _) ?_
 rintro _ _ ⟨rfl, rfl⟩
 simp only [Qr]
 refine Qe rfl rfl (WpL.nil (Qb (Qb (Qa (Qc rfl rfl (XN rfl rfl (WpL.nil (Ql rfl (fun hP => ?_) (fun hP => ?_)))))))))
 ·refine Qb (Qa (Qe rfl rfl (Qe rfl rfl (WpL.nil (Qi ?_)))))
  apply RetQ.mk
  ·exact (QB rfl rfl rfl)
  ·exact ⟨_, _, rfl, .inr ⟨fun h => hP h.1, rfl, rfl⟩, rfl⟩
  ·exact Take.ent' (by repeat' constructor)
 ·have hP := Classical.not_not.1 hP
  have hP2 := hP.1
  unfold Xv at hP2
  have hK4 := hP.2
  have hWH0 : 0 ≤ W * H := Int.mul_nonneg (by omega) (by omega)
  have hWH : W * H ≤ 4096 * 65536 := Int.mul_le_mul (by omega) (by omega) (by omega) (by omega)
  refine Wp.skip (Qb (Qb (Qa (Qc rfl rfl (QC rfl rfl (Qj (o2 := 1) rfl rfl rfl (Qo rfl rfl (by rfl) ?_)))))))
  refine Qj (o2 := 2) rfl rfl rfl (Qo rfl rfl (by rfl) ?_)
  refine XK rfl rfl rfl (Qu (by omega) (by omega)) ?_
  refine Xn rfl rfl rfl (WpL.nil (Ql rfl (fun h1 => ?_) (fun h1 => ?_)))
  ·refine Qb (Qa (Qe rfl rfl (Qe rfl rfl (WpL.nil (Qi ?_)))))
   apply RetQ.mk
   ·exact (QB rfl rfl rfl)
   ·exact ⟨_, _, rfl, .inr ⟨fun h => h1 h.2.1, rfl, rfl⟩, rfl⟩
   ·exact Take.ent' (by repeat' constructor)
  ·refine Wp.skip (Qb (Qa (Qe rfl rfl (WpL.nil (Qb (Qb (Qa (Qe rfl rfl (WpL.nil (Wp.block ?_))))))))))
   refine Wp.loopD (σ := WrX) (fun x => x.k ≤ px.length ∧ Xh x.s = wrL K W 0 (px.take x.k) ∧ (∀ p ∈ px.take x.k, Yp p (QW K) M) ∧ x.s.size ≤ x.k * 300000) [4, 5, 7, 8, 9, 10, 11, 12, 25, 26, 27, 28, 29, 30, 31, 32, 33, 34, 35, 36, 37, 38, 39, 40, 41, 42, 43, 44, 45, 46, 47, 48, 49, 50, 51, 52, 53, 54, 55, 56, 57, 58, 59, 60, 61, 62, 63, 64, 65, 66, 67, 68, 69, 70, 71, 72, 73, 74, 75, 76, 77, 78, 79, 80, 81, 82, 83, 84, 85] (fun x => [(8, .int .i64 (x.k : Int)), (7, .string x.s)]) (fun x => [QA g1 [.int .i64 K, .int .i64 W, .int .i64 H, .int .i64 M] 113, A0]) (fun x => px.length - x.k) ⟨0, ⟨#[]⟩⟩ ?_ (by repeat (first | exact FrLe.nil | refine FrLe.cons rfl ?_)) ?_ ?_
   ·exact ⟨Nat.zero_le _, rfl, by simp, Nat.zero_le _⟩
   ·exact Ent.refl _
   ·rintro ⟨k, s⟩ ⟨hk, hbs, hfit, hsz⟩
    dsimp only at hk hbs hfit hsz ⊢
    refine Qb (Qb (Qa (Qc rfl rfl (Qc rfl rfl (QC rfl rfl (Q7 rfl rfl rfl (WpL.nil (Ql rfl (fun h3 => ?_) (fun h3 => ?_)))))))))
    ·have hlt : k < px.length := by omega
     have hpb := hr _ (List.getElem_mem hlt)
     refine Wp.skip (Qb (Wp.block ?_))
     refine Qb ?_
     apply Q0 mixed [⟨31, _, []⟩, ⟨32, _, []⟩, ⟨33, _, [0, 1]⟩, ⟨34, _, [2]⟩, ⟨35, _, []⟩, ⟨36, _, [4]⟩, ⟨37, _, [3, 5]⟩, ⟨9, _, [6, 0, 1, 2, 3, 4, 5]⟩] rfl
     ·refine AllObs.mk ?_ ?_
      ·exact Qc rfl rfl (Qm rfl)
      refine AllObs.mk ?_ ?_
      ·exact Qc rfl rfl (Qm rfl)
      refine AllObs.mk ?_ ?_
      ·refine Q4 k rfl rfl rfl hA (by exact Take.ent' (by repeat' constructor)) rfl (by omega) (by rw [X1]; omega) ?_
       exact Qm rfl
      refine AllObs.mk ?_ ?_
      ·refine Q5 rfl rfl hA (by exact Take.ent' (by repeat' constructor)) (YP px hlt) ?_
       exact Qm rfl
      refine AllObs.mk ?_ ?_
      ·refine QI (vs := [_, _, _, _]) rfl rfl rfl (by rfl) ?_
       exact Qm rfl
      refine AllObs.mk ?_ ?_
      ·refine Qh rfl rfl (by repeat' constructor) (rFormat_spec _ _ _ _ (by omega) (by omega)) ?_
       rintro _ _ ⟨rfl, rfl⟩
       simp only [Qr]
       exact WpL.nil ⟨rfl, rfl, rfl, by exact Ent.refl _⟩
      refine AllObs.mk ?_ ?_
      ·refine Qh rfl rfl (by repeat' constructor) (rFits_spec _ _ _ hpb.1 hpb.2) ?_
       rintro _ _ ⟨rfl, rfl⟩
       simp only [Qr]
       exact WpL.nil ⟨rfl, rfl, rfl, by exact Ent.refl _⟩
      refine AllObs.mk ?_ ?_
      ·exact Qe rfl rfl (Qm rfl)
      exact AllObs.nil
     ·refine Qb (Qb (Qa (Qc rfl rfl (XN rfl rfl (WpL.nil (Ql rfl (fun hpf => ?_) (fun hpf => ?_)))))))
      ·refine Qb (Qa (Qe rfl rfl (Qe rfl rfl (WpL.nil (Qi ?_)))))
       apply RetQ.mk
       ·exact (QB rfl rfl rfl)
       ·exact ⟨_, _, rfl, .inr ⟨fun h => hpf (h.2.2 _ (List.getElem_mem hlt)), rfl, rfl⟩, rfl⟩
       ·exact Take.ent' (by repeat' constructor)
      ·have hpf := Classical.not_not.1 hpf
       have hcan := can_of_fit hpb.1 hpb.2 hpf
       have hchp : (Qn px[k]).length = 1 ∨ (Qn px[k]).length = 3 := by have h1 := hcan.1; have h2 := chK_or K; omega
       refine Wp.skip (Qb (Qa (Qc rfl rfl (Qc rfl rfl (Q4 k rfl rfl rfl hA (by exact Take.ent' (by repeat' constructor)) rfl (by omega) (by rw [X1]; omega) ?_)))))
       refine Q5 rfl rfl hA (by exact Take.ent' (by repeat' constructor)) (YP px hlt) ?_
       refine Qh rfl rfl (by repeat' constructor) (Vh _ hpb.1 hpb.2) ?_
       rintro _ _ ⟨A1, a1, c1, rfl, rfl, hA1, hn1⟩
       simp only [Qr]
       refine Qe rfl rfl (WpL.nil (Qb (Qb (Qa (Qe rfl rfl (WpL.nil (Wp.block ?_)))))))
       refine Wp.loopD (σ := WrX) (fun y => y.k ≤ (Qn px[k]).length ∧ Xh y.s = wrL K W 0 (px.take k) ++ pj (Qn px[k]) y.k ∧ y.s.size ≤ k * 300000 + y.k * 70000) [7, 11, 45, 46, 47, 48, 49, 50, 51, 52, 53, 54, 55, 56, 57, 58, 59, 60, 61, 62, 63, 64] (fun y => [(11, .int .i64 (y.k : Int)), (7, .string y.s)]) (fun y => [A1, QA g1 [.int .i64 K, .int .i64 W, .int .i64 H, .int .i64 M] 113, A0]) (fun y => (Qn px[k]).length - y.k) ⟨0, s⟩ ?_ (by repeat (first | exact FrLe.nil | refine FrLe.cons rfl ?_)) ?_ ?_
       ·exact ⟨Nat.zero_le _, by simp only; rw [pj_zero, List.append_nil]; exact hbs, by rw [Nat.zero_mul, Nat.add_zero]; exact hsz⟩
       ·exact Ent.refl _
       ·rintro ⟨j, s2⟩ ⟨hj, hjb, hjz⟩
        dsimp only at hj hjb hjz ⊢
        refine Qb (Qb (Qa (Qc rfl rfl (Qc rfl rfl (QC rfl rfl (Q7 rfl rfl rfl (WpL.nil (Ql rfl (fun h6 => ?_) (fun h6 => ?_)))))))))
        ·have hlj : j < (Qn px[k]).length := by omega
         have hsm := hcan.2.2 _ (List.getElem_mem hlj)
         refine Wp.skip (Qb (Wp.block ?_))
         refine Qb (Qa (Qc rfl rfl (Qc rfl rfl (Qc rfl rfl (Q4 j rfl rfl rfl hA1 (by exact Take.ent' (by repeat' constructor)) rfl (by omega) (by rw [QT]; omega) ?_)))))
         refine Q5 rfl rfl hA1 (by exact Take.ent' (by repeat' constructor)) (Xi (Qn px[k]) hlj) ?_
         refine Qh rfl rfl (by repeat' constructor) (Decimal_spec _ hsm.1 (by omega)) ?_
         rintro _ _ ⟨s1, rfl, hs1, rfl⟩
         simp only [Qr]
         have hz1 : s1.size ≤ 65536 := by rw [← XS, hs1]; have := Yl ((Qn px[k])[j]).toNat; omega
         refine Yo rfl rfl rfl (by omega) ?_
         refine Qe rfl rfl (WpL.nil (Qb (Qa (Qc rfl rfl (Qc rfl rfl (QC rfl rfl (ZQ rfl rfl rfl (Qu (by omega) (by omega)) ?_)))))))
         refine Q7 rfl rfl rfl (WpL.nil (Ql rfl (fun h7 => ?_) (fun h7 => ?_)))
         ·refine Qa (Qc rfl rfl (Yo rfl rfl rfl (by rw [ByteArray.size_append]; have : (⟨#[32]⟩ : ByteArray).size = 1 := rfl; omega) ?_))
          refine Qe rfl rfl (WpL.nil (Qa (Qc rfl rfl (QD rfl rfl rfl (Qu (by omega) (by omega)) ?_))))
          refine Qe rfl rfl (WpL.nil (Qv (⟨j + 1, s2 ++ s1 ++ ⟨#[32]⟩⟩ : WrX) ?_ ?_ (by ((repeat (first | exact Top.refl | refine Top.push rfl ?_)); done)) (by repeat (first | exact FrLe.nil | refine FrLe.cons rfl ?_)) ?_))
          ·refine ⟨by simp only; omega, ?_, ?_⟩
           ·simp only
            rw [X0, X0, hjb, hs1, ← pj_more hchp (by omega), show Xh ⟨#[32]⟩ = [32] from rfl]
            simp only [List.append_assoc]
           ·simp only [ByteArray.size_append]; have : (⟨#[32]⟩ : ByteArray).size = 1 := rfl; omega
          ·simp only; omega
          ·exact Ent.refl _
         ·refine Wp.skip (Qa (Qc rfl rfl (QD rfl rfl rfl (Qu (by omega) (by omega)) ?_)))
          refine Qe rfl rfl (WpL.nil (Qv (⟨j + 1, s2 ++ s1⟩ : WrX) ?_ ?_ (by ((repeat (first | exact Top.refl | refine Top.push rfl ?_)); done)) (by repeat (first | exact FrLe.nil | refine FrLe.cons rfl ?_)) ?_))
          ·refine ⟨by simp only; omega, ?_, ?_⟩
           ·simp only
            rw [X0, hjb, hs1, ← pj_end hchp (by omega)]
            simp only [List.append_assoc]
           ·simp only [ByteArray.size_append]; omega
          ·simp only; omega
          ·exact Ent.refl _
        ·have hje : j = (Qn px[k]).length := by omega
         have hjs : pj (Qn px[k]) j = X9 (Qn px[k]) := by rw [hje, pj_all]
         rw [hjs] at hjb
         have hm0 := Int.emod_nonneg (k : Int) (show W ≠ 0 by omega)
         have hm1 := Int.emod_lt_of_pos (k : Int) (show 0 < W by omega)
         refine QM (Qb (Qa (Qc rfl rfl (Qj (o2 := 1) rfl rfl rfl (Qo rfl rfl (by rfl) ?_)))))
         refine YV rfl rfl rfl (by omega) (by omega) ?_
         refine Qe rfl rfl (WpL.nil (Qb (Qa (Qj (o2 := 0) rfl rfl rfl (Qo rfl rfl (by rfl) ?_)))))
         refine Zm rfl rfl rfl (Qc rfl rfl (QK rfl rfl rfl (fun hg1 => ?_) (fun hg1 => ?_)))
         ·have hg1 := of_decide_eq_false hg1
          refine Qc rfl rfl (Qf rfl rfl (Qj (o2 := 1) rfl rfl rfl (Qf rfl rfl (Qo rfl rfl (by rfl) ?_))))
          refine Qf rfl rfl (ZQ rfl rfl rfl (Qu (by omega) (by omega)) ?_)
          refine Qf rfl rfl (QN rfl rfl rfl (Qs rfl rfl rfl (Qc rfl rfl (QK rfl rfl rfl (fun hg2 => ?_) (fun hg2 => ?_)))))
          ·have hg2 := of_decide_eq_false hg2
           refine Qc rfl rfl (Qf rfl rfl (YV rfl rfl rfl (by omega) (by omega) ?_))
           refine Qf rfl rfl (QN rfl rfl rfl (Qs rfl rfl rfl (WpL.nil (Ql rfl (fun h8 => ?_) (fun h8 => ?_)))))
           ·refine Qa (Qc rfl rfl (Yo rfl rfl rfl (by have : (⟨#[10]⟩ : ByteArray).size = 1 := rfl; omega) ?_))
            refine Qe rfl rfl (WpL.nil (Qa (Qc rfl rfl (QD rfl rfl rfl (Qu (by omega) (by omega)) ?_))))
            refine Qe rfl rfl (WpL.nil (Qv (⟨k + 1, s2 ++ ⟨#[10]⟩⟩ : WrX) ?_ ?_ (by ((repeat (first | exact Top.refl | refine Top.push rfl ?_)); done)) (by repeat (first | exact FrLe.nil | refine FrLe.cons rfl ?_)) ?_))
            ·refine ⟨by simp only; omega, ?_, fun p hp => ?_, ?_⟩
             ·simp only
              rw [X0, show Xh ⟨#[10]⟩ = [10] from rfl, wr_take hlt, ← List.append_assoc]
              exact nl_t (.inr (.inr (by omega))) hjb.symm
             ·rw [Xd px hlt] at hp
              rcases List.mem_append.1 hp with hp | hp
              ·exact hfit p hp
              ·have := List.mem_singleton.1 hp; subst this; exact hpf
             ·simp only [ByteArray.size_append]; have : (⟨#[10]⟩ : ByteArray).size = 1 := rfl; omega
            ·simp only; omega
            ·exact Take.ent' (by repeat' constructor)
           ·refine Wp.skip (Qa (Qc rfl rfl (QD rfl rfl rfl (Qu (by omega) (by omega)) ?_)))
            refine Qe rfl rfl (WpL.nil (Qv (⟨k + 1, s2⟩ : WrX) ?_ ?_ (by ((repeat (first | exact Top.refl | refine Top.push rfl ?_)); done)) (by repeat (first | exact FrLe.nil | refine FrLe.cons rfl ?_)) ?_))
            ·refine ⟨by simp only; omega, ?_, fun p hp => ?_, ?_⟩
             ·simp only
              rw [wr_take hlt, ← List.append_assoc]
              exact nl_f (by omega) (by omega) (by omega) hjb.symm
             ·rw [Xd px hlt] at hp
              rcases List.mem_append.1 hp with hp | hp
              ·exact hfit p hp
              ·have := List.mem_singleton.1 hp; subst this; exact hpf
             ·simp only; omega
            ·simp only; omega
            ·exact Take.ent' (by repeat' constructor)
          ·have hg2 := of_decide_eq_true hg2
           refine Qd rfl rfl rfl (by decide) (Qd rfl rfl rfl (by decide) (Qt rfl rfl rfl (WpL.nil (Xc rfl (Qa (Qc rfl rfl (Yo rfl rfl rfl (by have : (⟨#[10]⟩ : ByteArray).size = 1 := rfl; omega) ?_)))))))
           refine Qe rfl rfl (WpL.nil (Qa (Qc rfl rfl (QD rfl rfl rfl (Qu (by omega) (by omega)) ?_))))
           refine Qe rfl rfl (WpL.nil (Qv (⟨k + 1, s2 ++ ⟨#[10]⟩⟩ : WrX) ?_ ?_ (by ((repeat (first | exact Top.refl | refine Top.push rfl ?_)); done)) (by repeat (first | exact FrLe.nil | refine FrLe.cons rfl ?_)) ?_))
           ·refine ⟨by simp only; omega, ?_, fun p hp => ?_, ?_⟩
            ·simp only
             rw [X0, show Xh ⟨#[10]⟩ = [10] from rfl, wr_take hlt, ← List.append_assoc]
             exact nl_t (.inr (.inl (by omega))) hjb.symm
            ·rw [Xd px hlt] at hp
             rcases List.mem_append.1 hp with hp | hp
             ·exact hfit p hp
             ·have := List.mem_singleton.1 hp; subst this; exact hpf
            ·simp only [ByteArray.size_append]; have : (⟨#[10]⟩ : ByteArray).size = 1 := rfl; omega
           ·simp only; omega
           ·exact Take.ent' (by repeat' constructor)
         ·have hg1 := of_decide_eq_true hg1
          refine Qd rfl rfl rfl (by decide) (Qd rfl rfl rfl (by decide) (Qd rfl rfl rfl (by decide) (Qd rfl rfl rfl (by decide) (Qt rfl rfl rfl (Qc rfl rfl (Qd rfl rfl rfl (by decide) (Qd rfl rfl rfl (by decide) (Qd rfl rfl rfl (by decide) (Qt rfl rfl rfl (WpL.nil (Xc rfl (Qa ?_))))))))))))
          refine Qc rfl rfl (Yo rfl rfl rfl (by have : (⟨#[10]⟩ : ByteArray).size = 1 := rfl; omega) ?_)
          refine Qe rfl rfl (WpL.nil (Qa (Qc rfl rfl (QD rfl rfl rfl (Qu (by omega) (by omega)) ?_))))
          refine Qe rfl rfl (WpL.nil (Qv (⟨k + 1, s2 ++ ⟨#[10]⟩⟩ : WrX) ?_ ?_ (by ((repeat (first | exact Top.refl | refine Top.push rfl ?_)); done)) (by repeat (first | exact FrLe.nil | refine FrLe.cons rfl ?_)) ?_))
          ·refine ⟨by simp only; omega, ?_, fun p hp => ?_, ?_⟩
           ·simp only
            rw [X0, show Xh ⟨#[10]⟩ = [10] from rfl, wr_take hlt, ← List.append_assoc]
            exact nl_t (.inl (by omega)) hjb.symm
           ·rw [Xd px hlt] at hp
            rcases List.mem_append.1 hp with hp | hp
            ·exact hfit p hp
            ·have := List.mem_singleton.1 hp; subst this; exact hpf
           ·simp only [ByteArray.size_append]; have : (⟨#[10]⟩ : ByteArray).size = 1 := rfl; omega
          ·simp only; omega
          ·exact Take.ent' (by repeat' constructor)
    ·refine QM (Qb (Qa (Qc rfl rfl (Qe rfl rfl (Qe rfl rfl (WpL.nil (Qi ?_)))))))
     apply RetQ.mk
     ·exact (QB rfl rfl rfl)
     ·have hke : k = px.length := by omega
      have hz : s.size ≤ px.length * 300000 := by rw [← hke]; exact hsz
      rw [hke, List.take_length] at hfit hbs
      exact ⟨_, _, rfl, .inl ⟨⟨hP, by omega, hfit⟩, rfl, hbs, hz⟩, rfl⟩
     ·exact Take.ent' (by repeat' constructor)

end Go.Proofs.YtggamdlpiejbiaaGreat
namespace Go.Proofs.YtggamdlpiejbiaaGreat
open Go.RowKit Go.Shelf


theorem Yx (p : Int) : ∀ x ∈ Qn p, 0 ≤ x ∧ x ≤ 65535 := by
  intro x hx
  unfold Qn at hx
  split at hx
  · simp at hx; omega
  · split at hx
    · simp at hx; omega
    · simp at hx
end Go.Proofs.YtggamdlpiejbiaaGreat
namespace Go.Proofs.YtggamdlpiejbiaaGreat
open Go.RowKit Go.Shelf
section
variable {P : Program} {n : Cx} {D : List Deferred} {ops : Array Oper} {rest : List Oper} {Q : Post} {fr : Fr} {l : List HP} {ty : Nat} {pos : String} {aft : Array Edge}

theorem strCells_u8s (s : ByteArray) : Lib.strCells s = Xr (Xh s) := by simp [Lib.strCells, Xr, Xh]
theorem append_str_at {w : World} {t u ty e : Nat} [ht : SlT P t e 1 1 (.int .u8 0)] (hu : P.underlying u = some .string) {v : Value} {m : Nat} {xs : List Value} (hown : w.ownsRow 0 e 1 v m xs) (s : ByteArray) (hm : m + s.size ≤ 140737488355328) :
    ∃ v' w', (Builtin.append_ #[t, u] ty #[v, .string s]).run P w = .ok v' w' ∧ w'.ownsRow 0 e 1 v' (m + s.size) (xs ++ Xr (Xh s)) ∧ w.grownBy w' v.ownBlock ∧ (v'.ownBlock = v.ownBlock ∨ v'.ownBlock = some w.heap.size) := by
  obtain ⟨i, hi, hz0, hz1, hz2⟩ := info_parts ht.hi
  obtain ⟨v', w', hr, hown', hg, hnil⟩ := Lib.run_append_own_string (P := P) w 0 t u ty e i ht.hu hu hi hz0 hz1 hz2 v m xs hown s (by unfold maxLen; omega) hm (Nat.zero_le _)
  rw [strCells_u8s] at hown'
  refine ⟨v', w', hr, hown', hg, ?_⟩
  rcases hown.2 with ⟨rfl, rfl⟩ | ⟨g, cap, cur, rfl, _, hgc, hnc, _, hcs, htake⟩
  · by_cases h0 : s.size = 0
    · have := hnil.2 ⟨rfl, h0⟩
      subst this
      exact .inl rfl
    · have hr2 := run_append_nil_string (P := P) w t u ty e i (.int .u8 0) ht.hu hu hi hz0 s (by omega) (by omega) (by rw [hz2]; omega)
      rw [hr] at hr2
      injection hr2 with e1 _
      subst e1
      exact .inr rfl
  · by_cases hroom : m + s.size ≤ cap
    · have hr2 := Lib.run_append_room_string (P := P) w t u ty e i ht.hu hu hi hz1 g m cap cur hgc s hroom (by omega)
      rw [hr] at hr2
      injection hr2 with e1 _
      subst e1
      exact .inl rfl
    · have hxl : xs.length = m := by simpa using hown.1
      have hr2 := Lib.run_append_grow_string (P := P) w t u ty e i (.int .u8 0) ht.hu hu hi hz0 ⟨g, 0, none⟩ m cap xs (by rw [hz1]; simpa using hxl) (hown.cells (g := g) rfl) s (by omega) (by omega) (by rw [hz2]; exact growslice_fits (by omega) (by omega))
      rw [hr] at hr2
      injection hr2 with e1 _
      subst e1
      exact .inr rfl
/-- append(b, s...), s a text. -/
theorem s_apps {d t u e : Nat} {x y : Operand} {a : Option Addr} {c m : Nat} {xs : List Value} {s : ByteArray} {F : List HP} (hd : Nat.blt d n = true) [ht : SlT P t e 1 1 (.int .u8 0)] (hu : P.underlying u = some .string) (hx : ev fr x = some (.slice a m c)) (hy : ev fr y = some (.string s))
    (htk : Take l [QG e 1 a c m xs] F) (hm : m + s.size ≤ 140737488355328)
    (k : ∀ a' c', WpL P n D ops rest Q ((d, .slice a' (m + s.size) c') :: fr) (QG e 1 a' c' (m + s.size) (xs ++ Xr (Xh s)) :: F)) : WpL P n D ops (⟨some d, .call ⟨.builtin .append, #[x, y], #[t, u]⟩, ty, pos, aft, none⟩ :: rest) Q fr l := by
  refine XR (σ := Option Addr × Nat) hd (fun p => .slice p.1 (m + s.size) p.2) (fun p => QG e 1 p.1 p.2 (m + s.size) (xs ++ Xr (Xh s)) :: F) (fun A w U hh hs' => ?_) (fun p => k p.1 p.2)
  obtain ⟨V, ⟨S, ⟨hS, hown⟩, hSV, _⟩, hfr⟩ := Out.frame (pre := [QG e 1 a c m xs]) (F := F) (htk.ent w U hs')
  obtain ⟨v', w', hr, hown', hg, hat⟩ := append_str_at (P := P) (t := t) (ty := ty) hu hown s hm
  obtain ⟨a', c', rfl⟩ := slice_of_own hown'
  have hob : ∀ b, some b = (Value.slice a m c).ownBlock → V b := by
    intro b e
    refine hSV b ((hS b).2 ?_)
    cases a with
    | none => simp [Value.ownBlock] at e
    | some ad0 => simp [Value.ownBlock] at e; exact ⟨ad0, rfl, e⟩
  refine ⟨(a', c'), w', by simp [execOp, resolve, invoke, builtin, hh.ev hx, hh.ev hy, hr], hfr [QG e 1 a' c' (m + s.size) (xs ++ Xr (Xh s))] w' ⟨⟨fun b => ∃ ad, a' = some ad ∧ b = ad.block, ⟨fun _ => Iff.rfl, hown'⟩, ?_, trivial⟩, hg.os, hg.tape, hg.output, hg.size, ?_⟩⟩
  · rintro b ⟨ad', rfl, rfl⟩
    rcases hat with hat | hat
    · exact .inl (hob _ hat)
    · simp only [Value.ownBlock, Option.some.injEq] at hat
      exact .inr (Nat.le_of_eq hat.symm)
  · exact fun b hb' hnV => hg.block b hb' fun e => hnV (hob b e)

/-- A builder's types. -/
class BldF (P : Program) (T Tp Up : outParam Nat) (cc : outParam Nat) : Prop where
  tp : P.underlying Tp = some (.pointer T)
  up : P.underlying Up = some .unsafePointer
  sz : (P.info? T).map (·.size) = some 2
  lies : liesAt P P.depth T (2 / P.cellsOf T) 0 T 1 = true
theorem s_pself {d T T2 e : Nat} {x y : Operand} {p : Addr} (hd : Nat.blt d n = true) (ht : P.underlying T = some (.pointer e)) (hi : (P.info? e).isSome = true) (hx : ev fr x = some (.pointer (some p))) (hy : ev fr y = some (.pointer (some p)))
    (k : WpL P n D ops rest Q ((d, .bool false) :: fr) l) : WpL P n D ops (⟨some d, .binOp .neq T x y T2, ty, pos, aft, none⟩ :: rest) Q fr l :=
  WpL.val hd (fun a w _ hh _ => by
    obtain ⟨j, hj⟩ := Option.isSome_iff_exists.1 hi
    have := Lib.run_neq_ptr_same (P := P) w p ht hj
    simp [execOp, hh.ev hx, hh.ev hy, eqGuard, this]) k
theorem shape_of_blk {w : World} {g T : Nat} {cs : List Value} (h : w.heap[g]? = some (.cells cs.toArray T (0, 0))) : w.shape? g = some (T, cs.length) := by
  simp [World.shape?, h]
theorem s_tou {d Tp Up T g c2 T2 : Nat} {x : Operand} {v1 v2 : Value} (hd : Nat.blt d n = true) [hB : BldF P T Tp Up c2] (hx : ev fr x = some (.pointer (some ⟨g, 0, none⟩))) [hb : HasBlk l g [v1, v2] T2]
    (k : WpL P n D ops rest Q ((d, .pointer (some ⟨g, 0, none⟩)) :: fr) l) : WpL P n D ops (⟨some d, .convert Tp Up x, ty, pos, aft, none⟩ :: rest) Q fr l :=
  WpL.val hd (fun a w _ hh hs => by
    obtain ⟨j, hj, hjs⟩ := Option.map_eq_some_iff.1 hB.sz
    have := Lib.run_to_unsafe (P := P) w ⟨g, 0, none⟩ hB.tp hB.up hj (by rw [hjs]; decide) (shape_of_blk (hb.sat hs)) (by simp)
    simp [execOp, hh.ev hx, this]) k
theorem s_fromu {d Tp Up T g c2 : Nat} {x : Operand} {v1 v2 : Value} (hd : Nat.blt d n = true) [hB : BldF P T Tp Up c2] (hx : ev fr x = some (.pointer (some ⟨g, 0, none⟩))) [hb : HasBlk l g [v1, v2] T]
    (k : WpL P n D ops rest Q ((d, .pointer (some ⟨g, 0, none⟩)) :: fr) l) : WpL P n D ops (⟨some d, .convert Up Tp x, ty, pos, aft, none⟩ :: rest) Q fr l :=
  WpL.val hd (fun a w _ hh hs => by
    obtain ⟨j, hj, hjs⟩ := Option.map_eq_some_iff.1 hB.sz
    have := Lib.run_from_unsafe (P := P) w ⟨g, 0, none⟩ hB.up hB.tp hj (shape_of_blk (hb.sat hs)) hB.lies
    simp [execOp, hh.ev hx, this]) k
class NoEsc (P : Program) (f : Nat) : Prop where
  run : ∀ (x : Value) (w : World), (callFunc f #[x]).run P w = .ok (.value x) w
theorem s_noesc {d f : Nat} {x : Operand} {v : Value} {at_ : Array Nat} (hd : Nat.blt d n = true) [hN : NoEsc P f] (hx : ev fr x = some v)
    (k : WpL P n D ops rest Q ((d, v) :: fr) l) : WpL P n D ops (⟨some d, .call ⟨.value (.func f), #[x], at_⟩, ty, pos, aft, none⟩ :: rest) Q fr l :=
  WpL.val hd (fun a w _ hh hs => by
    have := hN.run v w
    have e1 : a.eval (.func f) = .func (.func f) #[] #[] := rfl
    simp [execOp, resolve, Deferred.ofValue, invoke, e1, hh.ev hx, this]) k
theorem noesc_of {f : Nat} {fn : Func} (hf : P.funcs[f]? = some fn) (hname : (fn.name == "runtime.NumGoroutine") = false) (hb : fn.body.isNone = true) (hn : Extern.findNext fn = none) (he : Extern.find fn = some Extern.AbiNoEscape.same) : NoEsc P f := ⟨fun x w => by
  rw [run_callFunc_extern hf hname hb hn he, Lib.run_noEscape]; rfl⟩
theorem s_usd {d ty' m c g : Nat} {x : Operand} {at_ : Array Nat} (hd : Nat.blt d n = true) (hx : ev fr x = some (.slice (some ⟨g, 0, none⟩) m c)) (hc : c ≠ 0)
    (k : WpL P n D ops rest Q ((d, .pointer (some ⟨g, 0, none⟩)) :: fr) l) : WpL P n D ops (⟨some d, .call ⟨.builtin .unsafeSliceData, #[x], at_⟩, ty', pos, aft, none⟩ :: rest) Q fr l :=
  WpL.val hd (fun a w _ hh hs => by
    have := Lib.run_unsafeSliceData_row (P := P) (w := w) at_ ty' ⟨g, 0, none⟩ m c hc
    simp [execOp, resolve, invoke, builtin, hh.ev hx, this]) k
/-- unsafe.String over a row of one's QG: the row is gone. -/
theorem s_uss {d pt it ty' e m c g m0 : Nat} {x y : Operand} {xs : List Int} {F : List HP} (hd : Nat.blt d n = true) (hp : P.underlying pt = some (.pointer e)) (hc1 : P.cellsOf e = 1) (hx : ev fr x = some (.pointer (some ⟨g, 0, none⟩))) (hy : ev fr y = some (.int .i64 (m : Int))) (htk : Take l [QG e 1 (some ⟨g, 0, none⟩) c m0 (Xr xs)] F)
    (hm : xs.length = m) (h0 : 0 < m) (h63 : m ≤ 140737488355328) (hb : ∀ x ∈ xs, 0 ≤ x ∧ x ≤ 255) (k : WpL P n D ops rest Q ((d, .string (strOfNums xs)) :: fr) F) :
    WpL P n D ops (⟨some d, .call ⟨.builtin .unsafeString, #[x, y], #[pt, it]⟩, ty', pos, aft, none⟩ :: rest) Q fr l := by
  refine XR (σ := Unit) hd (fun _ => .string (strOfNums xs)) (fun _ => F) (fun A w U hh hs' => ⟨(), w.freeze ⟨g, 0, none⟩ m, ?_, ?_⟩) (fun _ => k)
  · obtain ⟨S, hpp, _⟩ := htk.ent' w U hs'
    rcases XM hpp with ⟨e1, _⟩ | ⟨g', cur, e1, hg, hmc, hcs, h4, h5⟩
    · cases e1
    · injection e1 with e1
      injection e1 with e1 _ _
      subst e1
      obtain ⟨l8, hl8⟩ : ∃ l8 : List UInt8, l8 = xs.map fun x => x.toNat.toUInt8 := ⟨_, rfl⟩
      have hll : l8.length = m := by rw [hl8, List.length_map, hm]
      have h5' : xs.length = m0 := by rw [Xa] at h5; omega
      have hrun := Lib.run_unsafeString_row (P := P) (w := w) pt it ty' e hp hc1 g cur.size (by simp [World.shape?, hg]) l8 (fun e => by rw [e] at hll; simp at hll; omega) (by omega) (by omega) (fun j x hj => by
        have hjl : j < xs.length := by
          have := (List.getElem?_eq_some_iff.1 hj).1
          omega
        have hx2 : x = (xs[j]'hjl).toNat.toUInt8 := by
          rw [hl8, List.getElem?_map, List.getElem?_eq_getElem hjl] at hj
          simpa using hj.symm
        have hbx := hb _ (List.getElem_mem hjl)
        rw [Y9 hpp rfl j _ (Zn xs hjl), hx2]
        simp
        omega)
      rw [hll] at hrun
      have e2 : (⟨l8.toArray⟩ : ByteArray) = strOfNums xs := by
        rw [hl8]; simp [strOfNums]
      rw [e2] at hrun
      simp [execOp, resolve, invoke, builtin, hh.ev hx, hh.ev hy, hrun]
  · obtain ⟨V, ⟨S, ⟨hS, hown⟩, hSV, _⟩, hfr⟩ := Out.frame (pre := [QG e 1 (some ⟨g, 0, none⟩) c m0 (Xr xs)]) (F := F) (htk.ent w U hs')
    have hh2 : ∀ b, b ≠ g → (w.freeze ⟨g, 0, none⟩ m).heap[b]? = w.heap[b]? := by
      intro b hb
      unfold World.freeze
      split
      · rfl
      · simp [Array.getElem?_modify, Ne.symm hb]
    have hsz : (w.freeze ⟨g, 0, none⟩ m).heap.size = w.heap.size := by unfold World.freeze; split <;> simp
    have := hfr [] (w.freeze ⟨g, 0, none⟩ m) ⟨trivial, by unfold World.freeze; split <;> rfl, by unfold World.freeze; split <;> rfl, by unfold World.freeze; split <;> rfl, by rw [hsz]; exact Nat.le_refl _, fun b hb hn => hh2 b fun e => hn (hSV b ((hS b).2 ⟨_, rfl, e⟩))⟩
    simpa using this
end
end Go.Proofs.YtggamdlpiejbiaaGreat
