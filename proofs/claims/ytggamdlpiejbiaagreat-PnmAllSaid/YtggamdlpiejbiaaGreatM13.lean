/- Walks and plain laws, a part of the proof of PnmAll: every input that the law's guards let in, no condition beside. -/
import Derived.Laws.Externs
import Derived.Lib.AppendStr
import Derived.Lib.UnsafeStr
import Derived.Lib.Builder
import Derived.Test.YtggamdlpiejbiaaGreatM12
namespace Go.Proofs.YtggamdlpiejbiaaGreat
open Go.RowKit Go.Shelf


theorem Yx (a b : ByteArray) : QW (a ++ b) = QW a ++ QW b := by simp [QW, ByteArray.data_append]
theorem Zu {xs : List Int} (h : ∀ x ∈ xs, 0 ≤ x ∧ x ≤ 255) : QW (strOfNums xs) = xs := by
  unfold QW strOfNums
  simp only [List.map_map]
  conv => rhs; rw [← List.map_id xs]
  refine List.map_congr_left fun x hx => ?_
  have := h x hx
  simp only [Function.comp, UInt8.toNat_ofNat', id]
  omega
theorem size_nums (xs : List Int) : (strOfNums xs).size = xs.length := by simp [strOfNums, ByteArray.size]
theorem Zh (n : Nat) : (Y6 n).length ≤ n + 1 := by
  induction n using Nat.strongRecOn with
  | _ n ih =>
    rw [Y6]
    split
    · simp
    · have := ih (n / 10) (by omega)
      simp only [List.length_append, List.length_cons, List.length_nil]
      omega
theorem digs_rec {n : Int} (h : 10 ≤ n) : Y6 n.toNat = Y6 (n / 10).toNat ++ [48 + n % 10] := by
  rw [Y6, if_neg (by omega)]
  congr 1
  · congr 1; omega
  · congr 1; omega
theorem can_of_fit {p ch M : Int} (h0 : 0 ≤ p) (h1 : p < 18446744073709551616) (h : FitP p ch M) : Can ch M p := by
  obtain ⟨hf, hl, hs⟩ := h
  unfold FmtP at hf
  refine ⟨hl, ?_, fun x hx => ⟨?_, hs x hx⟩⟩
  · unfold QC at hl ⊢
    split
    · rename_i h3
      rw [pack_three (by unfold Z2; omega) (by unfold Z2; omega) (by unfold Z2; omega)]
      simp only
      omega
    · rename_i h3
      split
      · rename_i h4
        rw [pack_one (by unfold Z2; omega)]
        simp only
        omega
      · rename_i h4
        rw [if_neg h3, if_neg h4] at hl
        simp at hl
        omega
  · unfold QC at hx
    split at hx
    · simp at hx; omega
    · split at hx
      · simp at hx; omega
      · simp at hx

theorem Decimal_spec (n : Int) (h0 : 0 ≤ n) (h1 : n ≤ 65535) : Fn Tryz.prog 118 #[.int .i64 n] [] (fun v l => ∃ s, v = .string s ∧ QW s = Y6 n.toNat ∧ l = []) := by
 refine Qo (vs := [.int .i64 n]) Tryz.func118 rfl Tryz.ntmps118 rfl (Qb (Qa (Qd rfl rfl (WpL.nil (Qb (Qa (Qc rfl rfl (YK rfl rfl rfl (by omega) (by omega) ?_))))))))
 refine Qd rfl rfl (WpL.nil (Qb (Qb (Qa (Qc rfl rfl (Q9 rfl rfl rfl (WpL.nil (Qy rfl (by omega) ?_))))))))
 refine Wp.skip (Qb (Qa (Qc rfl rfl (Qw rfl rfl rfl (Qp (by omega) (by omega)) ?_))))
 refine Yh rfl Tryz.underlying3 rfl (w_u8 (by omega) (by omega)) ?_
 refine X6 rfl rfl rfl rfl ?_
 intro g1
 rw [show ([.int .u8 (48 + n % 10)] : List Value) = XM [48 + n % 10] from rfl]
 refine s_b2s (xs := [48 + n % 10]) rfl Tryz.underlying22 Tryz.underlying5 Tryz.underlying9 rfl rfl (Qd rfl rfl (WpL.nil (Qb (Qb (Qa (Qc rfl rfl (XC rfl rfl rfl (Qc rfl rfl (QB (dj := 18) rfl (decide_eq_true (by omega)) ?_)))))))))
 refine Qf rfl rfl (Qc rfl rfl (Qf rfl rfl (Q9 rfl rfl rfl (Qr rfl rfl rfl (WpL.nil (Qh rfl (fun h1 => ?_) (fun h1 => ?_)))))))
 ·refine Qb (Qb (Qa (Qc rfl rfl (Q9 rfl rfl rfl (WpL.nil (Qy rfl (by omega) ?_))))))
  refine Wp.skip (Qb (Qa (Qc rfl rfl (Qd rfl rfl (WpL.nil (Qg ?_))))))
  apply RetQ.mk
  ·exact (Res.one rfl rfl)
  ·exact ⟨_, rfl, by rw [Zu (by intro x hx; simp at hx; omega), Y6, if_pos (by omega)]; congr 1; omega, rfl⟩
  ·exact Ent.nil _
 ·refine Wp.skip (Qb (Qa (Qc rfl rfl (Y5 rfl rfl rfl (by omega) (by omega) (Qp (by omega) (by omega)) ?_))))
  refine Qj rfl rfl (by repeat' constructor) (Decimal_spec (n / 10) (by omega) (by omega)) ?_
  rintro _ _ ⟨s1, rfl, hs1, rfl⟩
  simp only [Qv]
  have hsz1 : s1.size ≤ 65536 := by rw [← Q8, hs1]; have := Zh (n / 10).toNat; omega
  refine Qc rfl rfl (Zn rfl rfl rfl (by rw [size_nums]; simp; omega) ?_)
  refine Qd rfl rfl (WpL.nil (Qg ?_))
  apply RetQ.mk
  ·exact (Res.one rfl rfl)
  ·exact ⟨_, rfl, by rw [Yx, hs1, Zu (by intro x hx; simp at hx; omega), digs_rec (n := n) (by omega)], rfl⟩
  ·exact Ent.nil _
termination_by n.toNat
decreasing_by omega


theorem Zc (K W H M : Int) (hK : 1 ≤ K) (hK6 : K ≤ 6) : Fn Tryz.prog 57 #[.agg #[.int .i64 K, .int .i64 W, .int .i64 H, .int .i64 M]] [] (fun v l => v = .agg #[.int .i64 (QY K), .int .i64 M] ∧ l = []) := by
 refine Qo (vs := [.agg #[.int .i64 K, .int .i64 W, .int .i64 H, .int .i64 M]]) Tryz.func57 rfl Tryz.ntmps57 rfl (Qb (Qa (Xb rfl rfl rfl ?_)))
 intro g1
 refine X1 rfl ?_
 intro g2
 refine WpL.nil (Qb (Qb (Qa (Qi (o2 := 0) rfl rfl rfl (Qn rfl rfl (by rfl) ?_)))))
 refine QI rfl rfl rfl (Qc rfl rfl (QO rfl rfl rfl (fun hg1 => ?_) (fun hg1 => ?_)))
 ·have hg1 := of_decide_eq_false hg1
  refine Qi (o2 := 0) rfl rfl rfl (Qf rfl rfl (Qn rfl rfl (by rfl) ?_))
  refine Qf rfl rfl (QI rfl rfl rfl (Qu rfl rfl rfl (WpL.nil (Qh rfl (fun h0 => ?_) (fun h0 => ?_)))))
  ·refine Qb (Qa (Qi (o2 := 3) rfl rfl rfl (Qn rfl rfl (by rfl) ?_)))
   refine Xj rfl rfl ?_
   refine QG rfl rfl rfl (by rfl) rfl ?_
   refine WpL.nil (Qg ?_)
   apply RetQ.mk
   ·exact (Xh rfl rfl (by rfl))
   ·exact ⟨by rw [show QY K = 3 from if_pos (by omega)], rfl⟩
   ·exact Ent.nil _
  ·refine Wp.skip (Qb (Qa (Qi (o2 := 3) rfl rfl rfl (Qn rfl rfl (by rfl) ?_))))
   refine Xj rfl rfl ?_
   refine QG rfl rfl rfl (by rfl) rfl ?_
   refine WpL.nil (Qg ?_)
   apply RetQ.mk
   ·exact (Xh rfl rfl (by rfl))
   ·exact ⟨by rw [show QY K = 1 from if_neg (by omega)], rfl⟩
   ·exact Ent.nil _
 ·have hg1 := of_decide_eq_true hg1
  refine Qe rfl rfl rfl (by decide) (Qe rfl rfl rfl (by decide) (Qr rfl rfl rfl (WpL.nil (Xg rfl (Qb (Qa (Qi (o2 := 3) rfl rfl rfl (Qn rfl rfl (by rfl) ?_))))))))
  refine Xj rfl rfl ?_
  refine QG rfl rfl rfl (by rfl) rfl ?_
  refine WpL.nil (Qg ?_)
  apply RetQ.mk
  ·exact (Xh rfl rfl (by rfl))
  ·exact ⟨by rw [show QY K = 3 from if_pos (by omega)], rfl⟩
  ·exact Ent.nil _

theorem pack_bd {xs : List Int} (h : xs.length = 1 ∨ xs.length = 3) (hs : ∀ n ∈ xs, Z2 n) : 0 ≤ (Xw xs).1 ∧ (Xw xs).1 < 18446744073709551616 := by
  have := packF_all (l := xs) (by omega) hs
  rw [packS_ok xs h hs]
  simp only
  omega
end Go.Proofs.YtggamdlpiejbiaaGreat
namespace Go.Proofs.YtggamdlpiejbiaaGreat
open Go.RowKit Go.Shelf


/-- A number's digits, the lowest first. -/
def lowD (b n : Nat) : List Int := if _h : n < b ∨ b < 2 then [((n % b : Nat) : Int)] else ((n % b : Nat) : Int) :: lowD b (n / b)
termination_by n
decreasing_by exact Nat.div_lt_self (by omega) (by omega)
theorem lowD_lt {b n : Nat} (h : n < b) : lowD b n = [((n % b : Nat) : Int)] := by rw [lowD, dif_pos (.inl h)]
theorem lowD_ge {b n : Nat} (h : b ≤ n) (hb : 2 ≤ b) : lowD b n = ((n % b : Nat) : Int) :: lowD b (n / b) := by rw [lowD, dif_neg (by omega)]
theorem lowD_head (b n : Nat) : ∃ t, lowD b n = ((n % b : Nat) : Int) :: t := by
  rw [lowD]
  split
  · exact ⟨_, rfl⟩
  · exact ⟨_, rfl⟩
theorem lowD_bd {b : Nat} (hb : 0 < b) (n : Nat) : ∀ x ∈ lowD b n, 0 ≤ x ∧ x < b := by
  induction n using Nat.strongRecOn with
  | _ n ih =>
    intro x hx
    have hm := Nat.mod_lt n hb
    rw [lowD] at hx
    split at hx
    · simp only [List.mem_singleton] at hx; subst hx; omega
    · rcases List.mem_cons.1 hx with rfl | hx
      · omega
      · exact ih (n / b) (Nat.div_lt_self (by omega) (by omega)) x hx
theorem lowD_digs (n : Nat) : Y6 n = ((lowD 10 n).map fun x => 48 + x).reverse := by
  induction n using Nat.strongRecOn with
  | _ n ih =>
    by_cases h : n < 10
    · rw [lowD_lt h, Y6, if_pos (by omega)]
      simp; omega
    · rw [lowD_ge (by omega) (by omega), Y6, if_neg (by omega), ih (n / 10) (by omega)]
      simp
theorem lowD_len20 {b n : Nat} (hb : 10 ≤ b) (k : Nat) (h : n < 10 ^ (k + 1)) : (lowD b n).length ≤ k + 1 := by
  induction k generalizing n with
  | zero =>
    rw [lowD_lt (by omega)]; simp
  | succ k ih =>
    by_cases h2 : n < b
    · rw [lowD_lt h2]; simp
    · rw [lowD_ge (by omega) (by omega)]
      have : n / b < 10 ^ (k + 1) := by
        apply Nat.div_lt_of_lt_mul
        calc n < 10 ^ (k + 1 + 1) := h
          _ = 10 * 10 ^ (k + 1) := by rw [Nat.pow_succ]; omega
          _ ≤ b * 10 ^ (k + 1) := Nat.mul_le_mul_right _ hb
      have := ih this
      simp; omega
theorem set_map {α : Type} (f : Int → α) (xs : List Int) (k : Nat) (x : Int) : (xs.map f).set k (f x) = (xs.set k x).map f := (List.map_set ..).symm
theorem u8s_set (xs : List Int) (k : Nat) (x : Int) : (XM xs).set k (.int .u8 x) = XM (xs.set k x) := set_map _ xs k x
theorem digs_bd (n : Nat) : ∀ x ∈ Y6 n, 48 ≤ x ∧ x ≤ 57 := by
  intro x hx
  rw [lowD_digs, List.mem_reverse, List.mem_map] at hx
  obtain ⟨y, hy, rfl⟩ := hx
  have := lowD_bd (b := 10) (by omega) n y hy
  omega

end Go.Proofs.YtggamdlpiejbiaaGreat
namespace Go.Proofs.YtggamdlpiejbiaaGreat
open Go.RowKit Go.Shelf

theorem take_all {xs : List Int} {k : Nat} {mx : Int} (h : ∀ x ∈ xs.take k, x ≤ mx) (hlt : k < xs.length) (hx : xs[k] ≤ mx) : ∀ x ∈ xs.take (k + 1), x ≤ mx := by
  intro x hxm
  rw [XR xs hlt] at hxm
  rcases List.mem_append.1 hxm with hxm | hxm
  · exact h x hxm
  · have := List.mem_singleton.1 hxm; subst this; exact hx

theorem rFits_spec (p ch mx : Int) (h0 : 0 ≤ p) (h1 : p < 18446744073709551616) : Fn Tryz.prog 98 #[.int .u64 p, .agg #[.int .i64 ch, .int .i64 mx]] [] (fun v l => v = .bool (decide (FitP p ch mx)) ∧ l = []) := by
 have hul := unpackS_len p
 refine Qo (vs := [.int .u64 p, .agg #[.int .i64 ch, .int .i64 mx]]) Tryz.func98 rfl Tryz.ntmps98 rfl (Qb (Qa (Xb rfl rfl rfl ?_)))
 intro g1
 refine Qd rfl rfl (WpL.nil (Qb (Qa (Qc rfl rfl (Qj rfl rfl (by repeat' constructor) (Z9 _ (by omega) (by omega)) ?_)))))
 rintro _ _ ⟨A1, a1, c1, rfl, rfl, hA1, hn1⟩
 simp only [Qv]
 refine Qd rfl rfl (WpL.nil (Qb (Qb (Qa (Qd rfl rfl (WpL.nil (Wp.block ?_)))))))
 refine Wp.loopD (σ := Nat) (fun k => k ≤ (QC p).length ∧ ∀ x ∈ (QC p).take k, x ≤ mx) [4, 6, 10, 11, 12, 13, 14, 15, 16, 17, 18, 19, 20, 21, 22] (fun k => [(6, .int .i64 (k : Int))]) (fun k => [A1, Qz g1 [.int .i64 ch, .int .i64 mx] 48]) (fun k => (QC p).length - k) 0 ?_ (by repeat (first | exact FrLe.nil | refine FrLe.cons rfl ?_)) ?_ ?_
 ·exact ⟨Nat.zero_le _, by simp⟩
 ·exact Ent.refl _
 ·rintro k ⟨hk, hall⟩
  refine Qb (Qb (Qa (Qc rfl rfl (Qc rfl rfl (QM rfl rfl (Q9 rfl rfl rfl (WpL.nil (Qh rfl (fun h1 => ?_) (fun h1 => ?_)))))))))
  ·have hlt : k < (QC p).length := by omega
   refine Wp.skip (Qb (Wp.block ?_))
   refine Qb ?_
   apply Q2 mixed [⟨16, _, []⟩, ⟨17, _, []⟩, ⟨18, _, [0, 1]⟩, ⟨19, _, [2]⟩, ⟨20, _, []⟩, ⟨21, _, [4]⟩, ⟨22, _, [3, 5]⟩] rfl
   ·refine AllObs.mk ?_ ?_
    ·exact Qc rfl rfl (Qm rfl)
    refine AllObs.mk ?_ ?_
    ·exact Qc rfl rfl (Qm rfl)
    refine AllObs.mk ?_ ?_
    ·refine Xo k rfl rfl rfl hA1 (by exact Take.ent' (by repeat' constructor)) rfl (by omega) (by rw [Xn]; omega) ?_
     exact Qm rfl
    refine AllObs.mk ?_ ?_
    ·refine Xp rfl rfl hA1 (by exact Take.ent' (by repeat' constructor)) (XN (QC p) hlt) ?_
     exact Qm rfl
    refine AllObs.mk ?_ ?_
    ·exact Qi (o2 := 1) rfl rfl rfl (Qm rfl)
    refine AllObs.mk ?_ ?_
    ·refine Qn rfl rfl (by rfl) ?_
     exact Qm rfl
    refine AllObs.mk ?_ ?_
    ·exact XC rfl rfl rfl (Qm rfl)
    exact AllObs.nil
   ·refine Qh rfl (fun h2 => ?_) (fun h2 => ?_)
    ·refine Qb (Qa (Qd rfl rfl (WpL.nil (Qg ?_))))
     skip
     apply RetQ.mk
     ·exact (Res.one rfl rfl)
     ·exact ⟨congrArg Value.bool (df (fun hf => by have := hf.2.2 _ (List.getElem_mem hlt); omega)), rfl⟩
     ·exact Ent.nil _
    ·refine Wp.skip (Qa (Qc rfl rfl (Qw rfl rfl rfl (Qp (by omega) (by omega)) ?_)))
     refine Qd rfl rfl (WpL.nil (Qq (k + 1) ?_ ?_ (by ((repeat (first | exact Top.refl | refine Top.push rfl ?_)); done)) (by repeat (first | exact FrLe.nil | refine FrLe.cons rfl ?_)) ?_))
     ·exact ⟨by omega, take_all hall hlt (by omega)⟩
     ·omega
     ·exact Ent.refl _
  ·refine QS (Qb (Qa ?_))
   refine Qx (vs := [_, _]) rfl rfl rfl (by rfl) ?_
   refine Qj rfl rfl (by repeat' constructor) (rFormat1_spec _ _) ?_
   rintro _ _ ⟨rfl, rfl⟩
   simp only [Qv]
   refine Qd rfl rfl (WpL.nil (Qb (Qa (Qc rfl rfl (Qc rfl rfl (QO rfl rfl rfl (fun hg1 => ?_) (fun hg1 => ?_)))))))
   ·have hg1 := of_decide_eq_true hg1
    refine Qc rfl rfl (Qf rfl rfl (QM rfl rfl (Qf rfl rfl (Qi (o2 := 0) rfl rfl rfl (Qf rfl rfl (Qn rfl rfl (by rfl) ?_))))))
    refine Qf rfl rfl (QI rfl rfl rfl (Qr rfl rfl rfl (Qd rfl rfl (WpL.nil (Qg ?_)))))
    skip
    apply RetQ.mk
    ·exact (Res.one rfl rfl)
    ·refine ⟨congrArg Value.bool ?_, rfl⟩
     have hke : k = (QC p).length := by omega
     rw [hke, List.take_length] at hall
     exact dd ⟨fun h => ⟨by assumption, h, hall⟩, fun h => h.2.1⟩
    ·exact Ent.nil _
   ·have hg1 := of_decide_eq_false hg1
    refine Qe rfl rfl rfl (by decide) (Qe rfl rfl rfl (by decide) (Qe rfl rfl rfl (by decide) (Qe rfl rfl rfl (by decide) (Qu rfl rfl rfl (Qd rfl rfl (WpL.nil (Qg ?_)))))))
    skip
    apply RetQ.mk
    ·exact (Res.one rfl rfl)
    ·refine ⟨congrArg Value.bool ?_, rfl⟩
     have hke : k = (QC p).length := by omega
     rw [hke, List.take_length] at hall
     exact df (fun hf => absurd hf.1 (by assumption))
    ·exact Ent.nil _


theorem chK_or (K : Int) : QY K = 1 ∨ QY K = 3 := by unfold QY; split <;> simp
def WrP (K W H M : Int) (px : List Int) : Prop := ZO K W H M ∧ (px.length : Int) = W * H ∧ ∀ p ∈ px, FitP p (QY K) M
/-- What stands behind j samples. -/
def pj (xs : List Int) (j : Nat) : List Int := if j = xs.length then Zm xs else (xs.take j).flatMap fun x => Y6 x.toNat ++ [32]
theorem pj_zero {xs : List Int} : pj xs 0 = [] := by
  unfold pj
  split
  · rename_i h; rw [List.eq_nil_of_length_eq_zero h.symm]; rfl
  · rfl
theorem pj_more {xs : List Int} (_h3 : xs.length = 1 ∨ xs.length = 3) {j : Nat} (hj : j + 1 < xs.length) : pj xs j ++ Y6 (xs[j]).toNat ++ [32] = pj xs (j + 1) := by
  unfold pj
  rw [if_neg (by omega), if_neg (by omega), XR xs (by omega), List.flatMap_append]
  simp
theorem pj_end {xs : List Int} (h3 : xs.length = 1 ∨ xs.length = 3) {j : Nat} (hj : j + 1 = xs.length) : pj xs j ++ Y6 (xs[j]'(by omega)).toNat = pj xs (j + 1) := by
  match xs, h3 with
  | [x], _ =>
    have : j = 0 := by simpa using hj
    subst this
    simp [pj, Zm]
  | [x, y, z], _ =>
    have : j = 2 := by simpa using hj
    subst this
    simp [pj, Zm]
  | [_, _], h => simp at h
  | _ :: _ :: _ :: _ :: _, h => simp at h
theorem pj_all {xs : List Int} : pj xs xs.length = Zm xs := if_pos rfl
theorem wr_take {K W : Int} {px : List Int} {k : Nat} (h : k < px.length) : wrL K W 0 (px.take (k + 1)) = wrL K W 0 (px.take k) ++ (Zm (QC px[k]) ++ if nlB K W k = true then [10] else []) := by
  rw [XR px h, wrL_snoc]
  simp only [pxB, Nat.zero_add, List.length_take, show min k px.length = k by omega]
theorem nl_t {K W : Int} {k : Nat} (h : K > 1 ∨ (k : Int) % W = W - 1 ∨ (k : Int) % W % 70 = 69) {b bs : List Int} (e : bs = b) : b ++ [10] = bs ++ (if nlB K W k = true then [10] else []) := by
  rw [show nlB K W k = true from decide_eq_true h, if_pos rfl, e]
theorem nl_f {K W : Int} {k : Nat} (h1 : ¬ K > 1) (h2 : ¬ (k : Int) % W = W - 1) (h3 : ¬ (k : Int) % W % 70 = 69) {b bs : List Int} (e : bs = b) : b = bs ++ (if nlB K W k = true then [10] else []) := by
  rw [show nlB K W k = false from decide_eq_false (by omega), e]; simp
structure WrX where
  (k : Nat) (s : ByteArray)

set_option maxHeartbeats 4000000 in
theorem rWrite_spec (A0 : HP) (a0 : Option Addr) (c0 : Nat) (px : List Int) (hA : RdsL [A0] a0 (Xy px)) (hr : ∀ p ∈ px, 0 ≤ p ∧ p < 18446744073709551616) (hl : px.length ≤ 300000) (K W H M : Int) : Fn Tryz.prog 69 #[.slice a0 px.length c0, .agg #[.int .i64 K, .int .i64 W, .int .i64 H, .int .i64 M]] [A0] (fun v l => ∃ s e, v = .tuple #[.string s, .int .i64 e] ∧ ((WrP K W H M px ∧ e = 0 ∧ QW s = wrL K W 0 px ∧ s.size ≤ px.length * 300000) ∨ (¬ WrP K W H M px ∧ e = 1 ∧ s = ⟨#[]⟩)) ∧ l = [A0]) := by
 refine Qo (vs := [.slice a0 px.length c0, .agg #[.int .i64 K, .int .i64 W, .int .i64 H, .int .i64 M]]) Tryz.func69 rfl Tryz.ntmps69 rfl (Qb (Qa (Xb rfl rfl rfl ?_)))
 intro g1
 refine Qd rfl rfl (Qd rfl rfl (WpL.nil (Qb (Qa ?_))))
 refine Qx (vs := [_, _, _, _]) rfl rfl rfl (by rfl) ?_
 refine Qj rfl rfl (by repeat' constructor) (rMay_spec _ _ _ _) ?_
 rintro _ _ ⟨rfl, rfl⟩
 simp only [Qv]
 refine Qd rfl rfl (WpL.nil (Qb (Qb (Qa (Qc rfl rfl (Yq rfl rfl (WpL.nil (Qh rfl (fun hP => ?_) (fun hP => ?_)))))))))
 ·refine Qb (Qa (Qd rfl rfl (Qd rfl rfl (WpL.nil (Qg ?_)))))
  apply RetQ.mk
  ·exact (QT rfl rfl rfl)
  ·exact ⟨_, _, rfl, .inr ⟨fun h => hP h.1, rfl, rfl⟩, rfl⟩
  ·exact Take.ent' (by repeat' constructor)
 ·have hP := Classical.not_not.1 hP
  have hP2 := hP.1
  unfold XZ at hP2
  have hK4 := hP.2
  have hWH0 : 0 ≤ W * H := Int.mul_nonneg (by omega) (by omega)
  have hWH : W * H ≤ 4096 * 65536 := Int.mul_le_mul (by omega) (by omega) (by omega) (by omega)
  refine Wp.skip (Qb (Qb (Qa (Qc rfl rfl (QM rfl rfl (Qi (o2 := 1) rfl rfl rfl (Qn rfl rfl (by rfl) ?_)))))))
  refine Qi (o2 := 2) rfl rfl rfl (Qn rfl rfl (by rfl) ?_)
  refine XU rfl rfl rfl (Qp (by omega) (by omega)) ?_
  refine Xs rfl rfl rfl (WpL.nil (Qh rfl (fun h1 => ?_) (fun h1 => ?_)))
  ·refine Qb (Qa (Qd rfl rfl (Qd rfl rfl (WpL.nil (Qg ?_)))))
   apply RetQ.mk
   ·exact (QT rfl rfl rfl)
   ·exact ⟨_, _, rfl, .inr ⟨fun h => h1 h.2.1, rfl, rfl⟩, rfl⟩
   ·exact Take.ent' (by repeat' constructor)
  ·refine Wp.skip (Qb (Qa (Qd rfl rfl (WpL.nil (Qb (Qb (Qa (Qd rfl rfl (WpL.nil (Wp.block ?_))))))))))
   refine Wp.loopD (σ := WrX) (fun x => x.k ≤ px.length ∧ QW x.s = wrL K W 0 (px.take x.k) ∧ (∀ p ∈ px.take x.k, FitP p (QY K) M) ∧ x.s.size ≤ x.k * 300000) [4, 5, 7, 8, 9, 10, 11, 12, 25, 26, 27, 28, 29, 30, 31, 32, 33, 34, 35, 36, 37, 38, 39, 40, 41, 42, 43, 44, 45, 46, 47, 48, 49, 50, 51, 52, 53, 54, 55, 56, 57, 58, 59, 60, 61, 62, 63, 64, 65, 66, 67, 68, 69, 70, 71, 72, 73, 74, 75, 76, 77, 78, 79, 80, 81, 82, 83, 84, 85] (fun x => [(8, .int .i64 (x.k : Int)), (7, .string x.s)]) (fun x => [Qz g1 [.int .i64 K, .int .i64 W, .int .i64 H, .int .i64 M] 113, A0]) (fun x => px.length - x.k) ⟨0, ⟨#[]⟩⟩ ?_ (by repeat (first | exact FrLe.nil | refine FrLe.cons rfl ?_)) ?_ ?_
   ·exact ⟨Nat.zero_le _, rfl, by simp, Nat.zero_le _⟩
   ·exact Ent.refl _
   ·rintro ⟨k, s⟩ ⟨hk, hbs, hfit, hsz⟩
    dsimp only at hk hbs hfit hsz ⊢
    refine Qb (Qb (Qa (Qc rfl rfl (Qc rfl rfl (QM rfl rfl (Q9 rfl rfl rfl (WpL.nil (Qh rfl (fun h3 => ?_) (fun h3 => ?_)))))))))
    ·have hlt : k < px.length := by omega
     have hpb := hr _ (List.getElem_mem hlt)
     refine Wp.skip (Qb (Wp.block ?_))
     refine Qb ?_
     apply Q2 mixed [⟨31, _, []⟩, ⟨32, _, []⟩, ⟨33, _, [0, 1]⟩, ⟨34, _, [2]⟩, ⟨35, _, []⟩, ⟨36, _, [4]⟩, ⟨37, _, [3, 5]⟩, ⟨9, _, [6, 0, 1, 2, 3, 4, 5]⟩] rfl
     ·refine AllObs.mk ?_ ?_
      ·exact Qc rfl rfl (Qm rfl)
      refine AllObs.mk ?_ ?_
      ·exact Qc rfl rfl (Qm rfl)
      refine AllObs.mk ?_ ?_
      ·refine Xo k rfl rfl rfl hA (by exact Take.ent' (by repeat' constructor)) rfl (by omega) (by rw [Zb]; omega) ?_
       exact Qm rfl
      refine AllObs.mk ?_ ?_
      ·refine Xp rfl rfl hA (by exact Take.ent' (by repeat' constructor)) (pxs_at px hlt) ?_
       exact Qm rfl
      refine AllObs.mk ?_ ?_
      ·refine Qx (vs := [_, _, _, _]) rfl rfl rfl (by rfl) ?_
       exact Qm rfl
      refine AllObs.mk ?_ ?_
      ·refine Qj rfl rfl (by repeat' constructor) (Zc _ _ _ _ (by omega) (by omega)) ?_
       rintro _ _ ⟨rfl, rfl⟩
       simp only [Qv]
       exact WpL.nil ⟨rfl, rfl, rfl, by exact Ent.refl _⟩
      refine AllObs.mk ?_ ?_
      ·refine Qj rfl rfl (by repeat' constructor) (rFits_spec _ _ _ hpb.1 hpb.2) ?_
       rintro _ _ ⟨rfl, rfl⟩
       simp only [Qv]
       exact WpL.nil ⟨rfl, rfl, rfl, by exact Ent.refl _⟩
      refine AllObs.mk ?_ ?_
      ·exact Qd rfl rfl (Qm rfl)
      exact AllObs.nil
     ·refine Qb (Qb (Qa (Qc rfl rfl (Yq rfl rfl (WpL.nil (Qh rfl (fun hpf => ?_) (fun hpf => ?_)))))))
      ·refine Qb (Qa (Qd rfl rfl (Qd rfl rfl (WpL.nil (Qg ?_)))))
       apply RetQ.mk
       ·exact (QT rfl rfl rfl)
       ·exact ⟨_, _, rfl, .inr ⟨fun h => hpf (h.2.2 _ (List.getElem_mem hlt)), rfl, rfl⟩, rfl⟩
       ·exact Take.ent' (by repeat' constructor)
      ·have hpf := Classical.not_not.1 hpf
       have hcan := can_of_fit hpb.1 hpb.2 hpf
       have hchp : (QC px[k]).length = 1 ∨ (QC px[k]).length = 3 := by have h1 := hcan.1; have h2 := chK_or K; omega
       refine Wp.skip (Qb (Qa (Qc rfl rfl (Qc rfl rfl (Xo k rfl rfl rfl hA (by exact Take.ent' (by repeat' constructor)) rfl (by omega) (by rw [Zb]; omega) ?_)))))
       refine Xp rfl rfl hA (by exact Take.ent' (by repeat' constructor)) (pxs_at px hlt) ?_
       refine Qj rfl rfl (by repeat' constructor) (Z9 _ hpb.1 hpb.2) ?_
       rintro _ _ ⟨A1, a1, c1, rfl, rfl, hA1, hn1⟩
       simp only [Qv]
       refine Qd rfl rfl (WpL.nil (Qb (Qb (Qa (Qd rfl rfl (WpL.nil (Wp.block ?_)))))))
       refine Wp.loopD (σ := WrX) (fun y => y.k ≤ (QC px[k]).length ∧ QW y.s = wrL K W 0 (px.take k) ++ pj (QC px[k]) y.k ∧ y.s.size ≤ k * 300000 + y.k * 70000) [7, 11, 45, 46, 47, 48, 49, 50, 51, 52, 53, 54, 55, 56, 57, 58, 59, 60, 61, 62, 63, 64] (fun y => [(11, .int .i64 (y.k : Int)), (7, .string y.s)]) (fun y => [A1, Qz g1 [.int .i64 K, .int .i64 W, .int .i64 H, .int .i64 M] 113, A0]) (fun y => (QC px[k]).length - y.k) ⟨0, s⟩ ?_ (by repeat (first | exact FrLe.nil | refine FrLe.cons rfl ?_)) ?_ ?_
       ·exact ⟨Nat.zero_le _, by simp only; rw [pj_zero, List.append_nil]; exact hbs, by rw [Nat.zero_mul, Nat.add_zero]; exact hsz⟩
       ·exact Ent.refl _
       ·rintro ⟨j, s2⟩ ⟨hj, hjb, hjz⟩
        dsimp only at hj hjb hjz ⊢
        refine Qb (Qb (Qa (Qc rfl rfl (Qc rfl rfl (QM rfl rfl (Q9 rfl rfl rfl (WpL.nil (Qh rfl (fun h6 => ?_) (fun h6 => ?_)))))))))
        ·have hlj : j < (QC px[k]).length := by omega
         have hsm := hcan.2.2 _ (List.getElem_mem hlj)
         refine Wp.skip (Qb (Wp.block ?_))
         refine Qb (Qa (Qc rfl rfl (Qc rfl rfl (Qc rfl rfl (Xo j rfl rfl rfl hA1 (by exact Take.ent' (by repeat' constructor)) rfl (by omega) (by rw [Xn]; omega) ?_)))))
         refine Xp rfl rfl hA1 (by exact Take.ent' (by repeat' constructor)) (XN (QC px[k]) hlj) ?_
         refine Qj rfl rfl (by repeat' constructor) (Decimal_spec _ hsm.1 (by omega)) ?_
         rintro _ _ ⟨s1, rfl, hs1, rfl⟩
         simp only [Qv]
         have hz1 : s1.size ≤ 65536 := by rw [← Q8, hs1]; have := Zh ((QC px[k])[j]).toNat; omega
         refine Zn rfl rfl rfl (by omega) ?_
         refine Qd rfl rfl (WpL.nil (Qb (Qa (Qc rfl rfl (Qc rfl rfl (QM rfl rfl (Zo rfl rfl rfl (Qp (by omega) (by omega)) ?_)))))))
         refine Q9 rfl rfl rfl (WpL.nil (Qh rfl (fun h7 => ?_) (fun h7 => ?_)))
         ·refine Qa (Qc rfl rfl (Zn rfl rfl rfl (by rw [ByteArray.size_append]; have : (⟨#[32]⟩ : ByteArray).size = 1 := rfl; omega) ?_))
          refine Qd rfl rfl (WpL.nil (Qa (Qc rfl rfl (Qw rfl rfl rfl (Qp (by omega) (by omega)) ?_))))
          refine Qd rfl rfl (WpL.nil (Qq (⟨j + 1, s2 ++ s1 ++ ⟨#[32]⟩⟩ : WrX) ?_ ?_ (by ((repeat (first | exact Top.refl | refine Top.push rfl ?_)); done)) (by repeat (first | exact FrLe.nil | refine FrLe.cons rfl ?_)) ?_))
          ·refine ⟨by simp only; omega, ?_, ?_⟩
           ·simp only
            rw [Yx, Yx, hjb, hs1, ← pj_more hchp (by omega), show QW ⟨#[32]⟩ = [32] from rfl]
            simp only [List.append_assoc]
           ·simp only [ByteArray.size_append]; have : (⟨#[32]⟩ : ByteArray).size = 1 := rfl; omega
          ·simp only; omega
          ·exact Ent.refl _
         ·refine Wp.skip (Qa (Qc rfl rfl (Qw rfl rfl rfl (Qp (by omega) (by omega)) ?_)))
          refine Qd rfl rfl (WpL.nil (Qq (⟨j + 1, s2 ++ s1⟩ : WrX) ?_ ?_ (by ((repeat (first | exact Top.refl | refine Top.push rfl ?_)); done)) (by repeat (first | exact FrLe.nil | refine FrLe.cons rfl ?_)) ?_))
          ·refine ⟨by simp only; omega, ?_, ?_⟩
           ·simp only
            rw [Yx, hjb, hs1, ← pj_end hchp (by omega)]
            simp only [List.append_assoc]
           ·simp only [ByteArray.size_append]; omega
          ·simp only; omega
          ·exact Ent.refl _
        ·have hje : j = (QC px[k]).length := by omega
         have hjs : pj (QC px[k]) j = Zm (QC px[k]) := by rw [hje, pj_all]
         rw [hjs] at hjb
         have hm0 := Int.emod_nonneg (k : Int) (show W ≠ 0 by omega)
         have hm1 := Int.emod_lt_of_pos (k : Int) (show 0 < W by omega)
         refine QS (Qb (Qa (Qc rfl rfl (Qi (o2 := 1) rfl rfl rfl (Qn rfl rfl (by rfl) ?_)))))
         refine YK rfl rfl rfl (by omega) (by omega) ?_
         refine Qd rfl rfl (WpL.nil (Qb (Qa (Qi (o2 := 0) rfl rfl rfl (Qn rfl rfl (by rfl) ?_)))))
         refine XC rfl rfl rfl (Qc rfl rfl (QO rfl rfl rfl (fun hg1 => ?_) (fun hg1 => ?_)))
         ·have hg1 := of_decide_eq_false hg1
          refine Qc rfl rfl (Qf rfl rfl (Qi (o2 := 1) rfl rfl rfl (Qf rfl rfl (Qn rfl rfl (by rfl) ?_))))
          refine Qf rfl rfl (Zo rfl rfl rfl (Qp (by omega) (by omega)) ?_)
          refine Qf rfl rfl (QI rfl rfl rfl (Qu rfl rfl rfl (Qc rfl rfl (QO rfl rfl rfl (fun hg2 => ?_) (fun hg2 => ?_)))))
          ·have hg2 := of_decide_eq_false hg2
           refine Qc rfl rfl (Qf rfl rfl (YK rfl rfl rfl (by omega) (by omega) ?_))
           refine Qf rfl rfl (QI rfl rfl rfl (Qu rfl rfl rfl (WpL.nil (Qh rfl (fun h8 => ?_) (fun h8 => ?_)))))
           ·refine Qa (Qc rfl rfl (Zn rfl rfl rfl (by have : (⟨#[10]⟩ : ByteArray).size = 1 := rfl; omega) ?_))
            refine Qd rfl rfl (WpL.nil (Qa (Qc rfl rfl (Qw rfl rfl rfl (Qp (by omega) (by omega)) ?_))))
            refine Qd rfl rfl (WpL.nil (Qq (⟨k + 1, s2 ++ ⟨#[10]⟩⟩ : WrX) ?_ ?_ (by ((repeat (first | exact Top.refl | refine Top.push rfl ?_)); done)) (by repeat (first | exact FrLe.nil | refine FrLe.cons rfl ?_)) ?_))
            ·refine ⟨by simp only; omega, ?_, fun p hp => ?_, ?_⟩
             ·simp only
              rw [Yx, show QW ⟨#[10]⟩ = [10] from rfl, wr_take hlt, ← List.append_assoc]
              exact nl_t (.inr (.inr (by omega))) hjb.symm
             ·rw [XR px hlt] at hp
              rcases List.mem_append.1 hp with hp | hp
              ·exact hfit p hp
              ·have := List.mem_singleton.1 hp; subst this; exact hpf
             ·simp only [ByteArray.size_append]; have : (⟨#[10]⟩ : ByteArray).size = 1 := rfl; omega
            ·simp only; omega
            ·exact Take.ent' (by repeat' constructor)
           ·refine Wp.skip (Qa (Qc rfl rfl (Qw rfl rfl rfl (Qp (by omega) (by omega)) ?_)))
            refine Qd rfl rfl (WpL.nil (Qq (⟨k + 1, s2⟩ : WrX) ?_ ?_ (by ((repeat (first | exact Top.refl | refine Top.push rfl ?_)); done)) (by repeat (first | exact FrLe.nil | refine FrLe.cons rfl ?_)) ?_))
            ·refine ⟨by simp only; omega, ?_, fun p hp => ?_, ?_⟩
             ·simp only
              rw [wr_take hlt, ← List.append_assoc]
              exact nl_f (by omega) (by omega) (by omega) hjb.symm
             ·rw [XR px hlt] at hp
              rcases List.mem_append.1 hp with hp | hp
              ·exact hfit p hp
              ·have := List.mem_singleton.1 hp; subst this; exact hpf
             ·simp only; omega
            ·simp only; omega
            ·exact Take.ent' (by repeat' constructor)
          ·have hg2 := of_decide_eq_true hg2
           refine Qe rfl rfl rfl (by decide) (Qe rfl rfl rfl (by decide) (Qr rfl rfl rfl (WpL.nil (Xg rfl (Qa (Qc rfl rfl (Zn rfl rfl rfl (by have : (⟨#[10]⟩ : ByteArray).size = 1 := rfl; omega) ?_)))))))
           refine Qd rfl rfl (WpL.nil (Qa (Qc rfl rfl (Qw rfl rfl rfl (Qp (by omega) (by omega)) ?_))))
           refine Qd rfl rfl (WpL.nil (Qq (⟨k + 1, s2 ++ ⟨#[10]⟩⟩ : WrX) ?_ ?_ (by ((repeat (first | exact Top.refl | refine Top.push rfl ?_)); done)) (by repeat (first | exact FrLe.nil | refine FrLe.cons rfl ?_)) ?_))
           ·refine ⟨by simp only; omega, ?_, fun p hp => ?_, ?_⟩
            ·simp only
             rw [Yx, show QW ⟨#[10]⟩ = [10] from rfl, wr_take hlt, ← List.append_assoc]
             exact nl_t (.inr (.inl (by omega))) hjb.symm
            ·rw [XR px hlt] at hp
             rcases List.mem_append.1 hp with hp | hp
             ·exact hfit p hp
             ·have := List.mem_singleton.1 hp; subst this; exact hpf
            ·simp only [ByteArray.size_append]; have : (⟨#[10]⟩ : ByteArray).size = 1 := rfl; omega
           ·simp only; omega
           ·exact Take.ent' (by repeat' constructor)
         ·have hg1 := of_decide_eq_true hg1
          refine Qe rfl rfl rfl (by decide) (Qe rfl rfl rfl (by decide) (Qe rfl rfl rfl (by decide) (Qe rfl rfl rfl (by decide) (Qr rfl rfl rfl (Qc rfl rfl (Qe rfl rfl rfl (by decide) (Qe rfl rfl rfl (by decide) (Qe rfl rfl rfl (by decide) (Qr rfl rfl rfl (WpL.nil (Xg rfl (Qa ?_))))))))))))
          refine Qc rfl rfl (Zn rfl rfl rfl (by have : (⟨#[10]⟩ : ByteArray).size = 1 := rfl; omega) ?_)
          refine Qd rfl rfl (WpL.nil (Qa (Qc rfl rfl (Qw rfl rfl rfl (Qp (by omega) (by omega)) ?_))))
          refine Qd rfl rfl (WpL.nil (Qq (⟨k + 1, s2 ++ ⟨#[10]⟩⟩ : WrX) ?_ ?_ (by ((repeat (first | exact Top.refl | refine Top.push rfl ?_)); done)) (by repeat (first | exact FrLe.nil | refine FrLe.cons rfl ?_)) ?_))
          ·refine ⟨by simp only; omega, ?_, fun p hp => ?_, ?_⟩
           ·simp only
            rw [Yx, show QW ⟨#[10]⟩ = [10] from rfl, wr_take hlt, ← List.append_assoc]
            exact nl_t (.inl (by omega)) hjb.symm
           ·rw [XR px hlt] at hp
            rcases List.mem_append.1 hp with hp | hp
            ·exact hfit p hp
            ·have := List.mem_singleton.1 hp; subst this; exact hpf
           ·simp only [ByteArray.size_append]; have : (⟨#[10]⟩ : ByteArray).size = 1 := rfl; omega
          ·simp only; omega
          ·exact Take.ent' (by repeat' constructor)
    ·refine QS (Qb (Qa (Qc rfl rfl (Qd rfl rfl (Qd rfl rfl (WpL.nil (Qg ?_)))))))
     apply RetQ.mk
     ·exact (QT rfl rfl rfl)
     ·have hke : k = px.length := by omega
      have hz : s.size ≤ px.length * 300000 := by rw [← hke]; exact hsz
      rw [hke, List.take_length] at hfit hbs
      exact ⟨_, _, rfl, .inl ⟨⟨hP, by omega, hfit⟩, rfl, hbs, hz⟩, rfl⟩
     ·exact Take.ent' (by repeat' constructor)

end Go.Proofs.YtggamdlpiejbiaaGreat
namespace Go.Proofs.YtggamdlpiejbiaaGreat
open Go.RowKit Go.Shelf


def b6 (k : Nat) : Int := match k with
  | 0 => 9
  | 1 => 10
  | 2 => 11
  | 3 => 12
  | 4 => 13
  | _ => 32
end Go.Proofs.YtggamdlpiejbiaaGreat
namespace Go.Proofs.YtggamdlpiejbiaaGreat
open Go.RowKit Go.Shelf


theorem unpackS_bd (p : Int) : ∀ x ∈ QC p, 0 ≤ x ∧ x ≤ 65535 := by
  intro x hx
  unfold QC at hx
  split at hx
  · simp at hx; omega
  · split at hx
    · simp at hx; omega
    · simp at hx
end Go.Proofs.YtggamdlpiejbiaaGreat
namespace Go.Proofs.YtggamdlpiejbiaaGreat
open Go.RowKit Go.Shelf


theorem u8s_app (xs ys : List Int) : XM xs ++ XM ys = XM (xs ++ ys) := by simp [XM]
end Go.Proofs.YtggamdlpiejbiaaGreat
namespace Go.Proofs.YtggamdlpiejbiaaGreat
open Go.RowKit Go.Shelf


theorem digs_len5 {x : Int} (h : x ≤ 65535) : 1 ≤ (Y6 x.toNat).length ∧ (Y6 x.toNat).length ≤ 5 := by
  rw [lowD_digs, List.length_reverse, List.length_map]
  obtain ⟨t, ht⟩ := lowD_head 10 x.toNat
  have := lowD_len20 (b := 10) (n := x.toNat) (by omega) 4 (by omega)
  rw [ht] at this ⊢
  simp only [List.length_cons] at this ⊢
  omega
theorem joinB_len : ∀ (xs : List Int), (∀ x ∈ xs, x ≤ 65535) → (Zm xs).length ≤ 6 * xs.length ∧ (xs ≠ [] → 1 ≤ (Zm xs).length)
  | [], _ => by simp [Zm]
  | [x], h => by
    have := digs_len5 (h x (by simp))
    simp only [Zm, List.length_cons, List.length_nil]; omega
  | x :: y :: xs, h => by
    have h1 := digs_len5 (h x (by simp))
    have h2 := joinB_len (y :: xs) fun z hz => h z (by simp [hz])
    simp only [Zm, List.length_append, List.length_cons] at h2 ⊢; omega
theorem joinB_byte : ∀ (xs : List Int), ∀ b ∈ Zm xs, 0 ≤ b ∧ b ≤ 255
  | [], b, hb => by simp [Zm] at hb
  | [x], b, hb => by have := digs_bd _ b hb; omega
  | x :: y :: xs, b, hb => by
    rw [Zm] at hb
    rcases List.mem_append.1 hb with hb | hb
    · have := digs_bd _ b hb; omega
    · rcases List.mem_cons.1 hb with hb | hb
      · omega
      · exact joinB_byte (y :: xs) b hb
theorem wrL_len {K W : Int} : ∀ (l : List Int) (i : Nat), (wrL K W i l).length ≤ 20 * l.length
  | [], i => by simp [wrL]
  | p :: l, i => by
    have h1 := wrL_len (K := K) (W := W) l (i + 1)
    have h2 := (joinB_len (QC p) fun x hx => (unpackS_bd p x hx).2).1
    have h3 := unpackS_len p
    simp only [wrL, pxB, List.length_append, List.length_cons]
    split <;> simp <;> omega
theorem wrL_byte {K W : Int} : ∀ (l : List Int) (i : Nat), ∀ b ∈ wrL K W i l, 0 ≤ b ∧ b ≤ 255
  | [], i, b, hb => by simp [wrL] at hb
  | p :: l, i, b, hb => by
    rw [wrL, pxB] at hb
    rcases List.mem_append.1 hb with hb | hb
    · rcases List.mem_append.1 hb with hb | hb
      · exact joinB_byte _ b hb
      · split at hb
        · simp at hb; omega
        · simp at hb
    · exact wrL_byte l (i + 1) b hb
theorem digs_str (n : Nat) : QW (strOfNums (Y6 n)) = Y6 n := Zu fun x hx => by have := digs_bd n x hx; omega
end Go.Proofs.YtggamdlpiejbiaaGreat
namespace Go.Proofs.YtggamdlpiejbiaaGreat
open Go.RowKit Go.Shelf

def bitv (x : Int) : Prop := x = 0 ∨ x = 1
/-- Bits joined, the highest first: the first one weighs w. -/
def bw : List Int → Nat → Int
  | [], _ => 0
  | x :: xs, m => x * 2 ^ m + bw xs (m - 1)
theorem bw_bd : ∀ (xs : List Int) (m : Nat), xs.length ≤ m + 1 → (∀ x ∈ xs, bitv x) → 0 ≤ bw xs m ∧ bw xs m < 2 ^ (m + 1)
  | [], m, _, _ => ⟨by simp [bw], by simp only [bw]; exact_mod_cast Nat.two_pow_pos (m + 1)⟩
  | x :: xs, m, hl, hb => by
    have hx := hb x (by simp)
    have h2 : (0 : Int) < 2 ^ m := by exact_mod_cast Nat.two_pow_pos m
    rw [Int.pow_succ]
    cases m with
    | zero =>
      have : xs = [] := List.eq_nil_of_length_eq_zero (by simp only [List.length_cons] at hl; omega)
      subst this
      unfold bitv at hx
      simp only [bw]; rcases hx with rfl | rfl <;> simp
    | succ m =>
      have ih := bw_bd xs m (by simp at hl; omega) fun y hy => hb y (by simp [hy])
      unfold bitv at hx
      simp only [bw, Nat.add_sub_cancel]
      rcases hx with rfl | rfl <;> omega
def byteOf (xs : List Int) : Int := bw xs 7
def ZP (l : List Int) (j : Nat) : Int := byteOf ((l.drop (8 * j)).take 8)
def ZJ (l : List Int) : List Int := (List.range ((l.length + 7) / 8)).map (ZP l)
def bitAt (bs : List Int) (i : Nat) : Int := (bs[i / 8]?.getD 0) / 2 ^ (7 - i % 8) % 2
def YT (bs : List Int) (w : Nat) : List Int := (List.range w).map (bitAt bs)
theorem packB_len (l : List Int) : (ZJ l).length = (l.length + 7) / 8 := by simp [ZJ]
theorem byteAt_bd {l : List Int} (h : ∀ x ∈ l, bitv x) (j : Nat) : 0 ≤ ZP l j ∧ ZP l j ≤ 255 := by
  have := bw_bd ((l.drop (8 * j)).take 8) 7 (by rw [List.length_take]; omega) fun x hx => h x (List.mem_of_mem_drop (List.mem_of_mem_take hx))
  unfold ZP byteOf
  omega
theorem packB_bd {l : List Int} (h : ∀ x ∈ l, bitv x) : ∀ b ∈ ZJ l, 0 ≤ b ∧ b ≤ 255 := by
  intro b hb
  obtain ⟨j, _, rfl⟩ := List.mem_map.1 hb
  exact byteAt_bd h j
def Qk (M : Int) : Nat := if 255 < M then 2 else 1
theorem Xd (M : Int) : Qk M = 1 ∨ Qk M = 2 := by unfold Qk; split <;> simp
def encS (w : Nat) (x : Int) : List Int := if w = 1 then [x] else [x / 256, x % 256]
def Yd (w : Nat) (b : List Int) (i : Nat) : Int := if w = 1 then b[i]?.getD 0 else (b[2 * i]?.getD 0) * 256 + (b[2 * i + 1]?.getD 0)
def YG (w : Nat) (b : List Int) : List Int := (List.range (b.length / w)).map (Yd w b)
theorem enc_len {w : Nat} (hw : w = 1 ∨ w = 2) (xs : List Int) : (xs.flatMap (encS w)).length = xs.length * w := by
  induction xs with
  | nil => simp
  | cons x xs ih =>
    rw [List.flatMap_cons, List.length_append, ih, List.length_cons, Nat.add_mul]
    rcases hw with rfl | rfl <;> simp [encS] <;> omega
theorem enc_bd {w : Nat} {xs : List Int} (h : ∀ x ∈ xs, 0 ≤ x ∧ x ≤ 65535) (h1 : w = 1 → ∀ x ∈ xs, x ≤ 255) : ∀ b ∈ xs.flatMap (encS w), 0 ≤ b ∧ b ≤ 255 := by
  intro b hb
  obtain ⟨x, hx, hb⟩ := List.mem_flatMap.1 hb
  have := h x hx
  unfold encS at hb
  split at hb
  · rename_i hw; have := h1 hw x hx; simp at hb; omega
  · simp at hb; omega
def YM (ch : Nat) (l : List Int) : List Int := (List.range (l.length / ch)).map fun k => (Xw ((l.drop (k * ch)).take ch)).1
theorem flat_len {ch : Nat} (px : List Int) (h : ∀ p ∈ px, (QC p).length = ch) : (px.flatMap QC).length = px.length * ch := by
  induction px with
  | nil => simp
  | cons p px ih =>
    rw [List.flatMap_cons, List.length_append, ih fun q hq => h q (by simp [hq]), h p (by simp), List.length_cons, Nat.add_mul]
    omega
def rowB (K : Int) (w : Nat) (row : List Int) : List Int := if K = 4 then ZJ row else row.flatMap (encS w)
def YS (K : Int) (W : Nat) (w : Nat) (b : List Int) : List Int := YM (QY K).toNat (if K = 4 then YT b W else YG w b)
structure RW where
  (b : List Int) (n : Nat) (rows last e : Int)
/-- A raw raster's reader, told a byte. -/
def XQ (K : Int) (W : Nat) (H M : Int) (s : RW) (c : Int) : RW × List Int :=
  if s.last ≠ 0 then (s, []) else
  if K ≠ 4 ∧ (s.n + 1) % Qk M = 0 ∧ Yd (Qk M) (s.b.set s.n c) ((s.n + 1) / Qk M - 1) > M then (⟨s.b.set s.n c, s.n + 1, s.rows, 2, 5⟩, []) else
  if s.n + 1 < s.b.length then (⟨s.b.set s.n c, s.n + 1, s.rows, 0, s.e⟩, []) else
  (⟨s.b.set s.n c, 0, s.rows + 1, if s.rows + 1 = H then 1 else 0, s.e⟩, YS K W (Qk M) (s.b.set s.n c))
/-- A raster's bytes: row by row. -/
def wrRows (K : Int) (W w : Nat) (px : List Int) (n : Nat) : List (List Int) := (List.range n).map fun y => rowB K w (((px.drop (y * W)).take W).flatMap QC)
def Zf (K : Int) (W w : Nat) (px : List Int) (n : Nat) : List Int := (wrRows K W w px n).flatten
def QJ (K : Int) (W w : Nat) : Nat := if K = 4 then (W + 7) / 8 else W * (QY K).toNat * w
def eightF (b : Int) (k j : Nat) : Value := .int .i64 (if j < k then b / 2 ^ (7 - j) % 2 else 0)
def eightK (b : Int) (k : Nat) : List Value := [eightF b k 0, eightF b k 1, eightF b k 2, eightF b k 3, eightF b k 4, eightF b k 5, eightF b k 6, eightF b k 7]
theorem eightK_set (b : Int) {k : Nat} (h : k < 8) : (eightK b k).set k (.int .i64 (b / 2 ^ (7 - k) % 2)) = eightK b (k + 1) := by
  obtain rfl | rfl | rfl | rfl | rfl | rfl | rfl | rfl : k = 0 ∨ k = 1 ∨ k = 2 ∨ k = 3 ∨ k = 4 ∨ k = 5 ∨ k = 6 ∨ k = 7 := by omega
  all_goals rfl
theorem eight_at (b : Int) {j : Nat} (h : j < 8) : (eightK b 8)[j]? = some (.int .i64 (b / 2 ^ (7 - j) % 2)) := by
  obtain rfl | rfl | rfl | rfl | rfl | rfl | rfl | rfl : j = 0 ∨ j = 1 ∨ j = 2 ∨ j = 3 ∨ j = 4 ∨ j = 5 ∨ j = 6 ∨ j = 7 := by omega
  all_goals rfl
theorem bitAt_at {bs : List Int} {k j : Nat} (hk : k < bs.length) (hj : j < 8) : bitAt bs (8 * k + j) = bs[k] / 2 ^ (7 - j) % 2 := by
  unfold bitAt
  rw [show (8 * k + j) / 8 = k by omega, show (8 * k + j) % 8 = j by omega, List.getElem?_eq_getElem hk]
  rfl
theorem ubits_len (bs : List Int) (n : Nat) : (YT bs n).length = n := by simp [YT]
theorem ubits_snoc (bs : List Int) (n : Nat) : YT bs n ++ [bitAt bs n] = YT bs (n + 1) := by simp [YT, List.range_succ]
theorem two_pos (k : Nat) : (0 : Int) < 2 ^ k := by exact_mod_cast Nat.two_pow_pos k
structure NmX where
  (k : Nat) (m : List HP)
structure JmX where
  (j : Nat) (m : List HP)

end Go.Proofs.YtggamdlpiejbiaaGreat
namespace Go.Proofs.YtggamdlpiejbiaaGreat
open Go.RowKit Go.Shelf

theorem sized_spec (W : Int) : Fn Tryz.prog 181 #[.int .i64 W] [] (fun v l => v = .bool (decide (1 ≤ W ∧ W ≤ 4096)) ∧ l = []) := by
 refine Qo (vs := [.int .i64 W]) Tryz.func181 rfl Tryz.ntmps181 rfl (Qb (Qa (Qd rfl rfl (WpL.nil (Qb (Qa (Qc rfl rfl (s_ge rfl rfl rfl (Qc rfl rfl (QO rfl rfl rfl (fun hg1 => ?_) (fun hg1 => ?_)))))))))))
 ·have hg1 := of_decide_eq_true hg1
  refine Qc rfl rfl (Qf rfl rfl (s_le rfl rfl rfl (Qr rfl rfl rfl (Qd rfl rfl (WpL.nil (Qg ?_))))))
  apply RetQ.mk
  ·exact (Res.one rfl rfl)
  ·exact ⟨congrArg Value.bool (by exact dd (by omega)), rfl⟩
  ·exact Ent.refl _
 ·have hg1 := of_decide_eq_false hg1
  refine Qe rfl rfl rfl (by decide) (Qu rfl rfl rfl (Qd rfl rfl (WpL.nil (Qg ?_))))
  apply RetQ.mk
  ·exact (Res.one rfl rfl)
  ·exact ⟨congrArg Value.bool (by exact df (by omega)), rfl⟩
  ·exact Ent.refl _

theorem Bytes_spec (W : Int) (h : 1 ≤ W ∧ W ≤ 4096) : Fn Tryz.prog 182 #[.int .i64 W] [] (fun v l => v = .int .i64 ((W + 7) / 8) ∧ l = []) := by
 refine Qo (vs := [.int .i64 W]) Tryz.func182 rfl Tryz.ntmps182 rfl (Qb (Qa (Qd rfl rfl (WpL.nil (Qb (Qb (Qa (Qc rfl rfl (Qj rfl rfl (by repeat' constructor) (sized_spec _) ?_)))))))))
 rintro _ _ ⟨rfl, rfl⟩
 simp only [Qv]
 refine Yq rfl rfl (WpL.nil (Qy rfl (fun hn => hn h) ?_))
 refine Wp.skip (Qb (Qa (Qc rfl rfl (Qw rfl rfl rfl (Qp (by omega) (by omega)) ?_))))
 refine Zo rfl rfl rfl (Qp (by omega) (by omega)) ?_
 refine Y5 rfl rfl rfl (by omega) (by omega) (Qp (by omega) (by omega)) ?_
 refine Qd rfl rfl (WpL.nil (Qg ?_))
 apply RetQ.mk
 ·exact (Res.one rfl rfl)
 ·exact ⟨by rw [show W + 8 - 1 = W + 7 by omega], rfl⟩
 ·exact Ent.refl _

theorem eighth_spec (b : Int) (hb0 : 0 ≤ b) (hb1 : b ≤ 255) : Fn Tryz.prog 209 #[.int .u8 b] [] (fun v l => v = .agg (eightK b 8).toArray ∧ l = []) := by
 refine Qo (vs := [.int .u8 b]) Tryz.func209 rfl Tryz.ntmps209 rfl (Qb (Qa (X1 rfl ?_)))
 intro g1
 refine WpL.nil (Qb (Qa (X1 rfl ?_)))
 intro g2
 refine WpL.nil (Qb (Qb (Qa (Qc rfl rfl (WpL.nil (Wp.block ?_))))))
 refine Wp.loopD (σ := Nat) (fun k => k ≤ 8) [4, 5, 6, 7, 8, 9, 10, 11, 12, 13, 14, 15, 16] (fun k => [(5, .int .i64 (k : Int))]) (fun k => [Qz g2 (eightK b k) 271, Qz g1 (eightK b 0) 271]) (fun k => 8 - k) 0 ?_ (by repeat (first | exact FrLe.nil | refine FrLe.cons rfl ?_)) ?_ ?_
 ·omega
 ·exact Ent.refl _
 ·rintro k hk
  refine Qb (Qa (Q9 rfl rfl rfl (WpL.nil (Qb (Qh rfl (fun h1 => ?_) (fun h1 => ?_))))))
  ·have hlt : k < 8 := by omega
   have hp := two_pos (7 - k)
   have hq0 : 0 ≤ b / 2 ^ (7 - k) := Int.ediv_nonneg hb0 (by omega)
   have hq1 : b / 2 ^ (7 - k) ≤ 255 := Int.le_trans (Int.ediv_le_self _ hb0) hb1
   refine Wp.skip (Qb (Wp.block ?_))
   refine Qb (Qa (Qc rfl rfl (Qd rfl rfl (WpL.nil (Qa (Qc rfl rfl (Qc rfl rfl (Qc rfl rfl (Zo rfl rfl rfl (Qp (by omega) (by omega)) ?_)))))))))
   refine s_shr (2 ^ (7 - k)) rfl rfl rfl ⟨by omega, by simp only [IntKind.bits]; omega, by rw [show (7 - (k : Int)).toNat = 7 - k by omega]⟩ hp ?_
   refine s_and 2 1 rfl rfl rfl (by decide) hq0 (by simp only [IntKind.bits]; omega) (w_u8 (by omega) (by omega)) ?_
   refine Yh rfl Tryz.underlying5 rfl (Qp (by omega) (by omega)) ?_
   refine s_ixarS k rfl rfl rfl rfl (by omega) (Nat.zero_add k) ?_
   refine s_stk rfl rfl rfl (by simp [eightK]; omega) ?_
   refine WpL.nil (Qa (Qw rfl rfl rfl (Qp (by omega) (by omega)) ?_))
   refine Qc rfl rfl (WpL.nil ?_)
   rw [eightK_set b hlt]
   refine Qq (k + 1) ?_ ?_ (by ((repeat (first | exact Top.refl | refine Top.push rfl ?_)); done)) (by repeat (first | exact FrLe.nil | refine FrLe.cons rfl ?_)) ?_
   ·omega
   ·omega
   ·exact Ent.refl _
  ·have hke : k = 8 := by omega
   subst hke
   unfold eightK
   refine QS (Qb (Qa ?_))
   refine Qx (vs := [_, _, _, _, _, _, _, _]) rfl rfl rfl (by rfl) ?_
   refine QG rfl rfl rfl (by rfl) rfl ?_
   refine WpL.nil (Qg ?_)
   apply RetQ.mk
   ·exact (Xh rfl rfl (by rfl))
   ·exact ⟨rfl, rfl⟩
   ·exact Ent.nil _

end Go.Proofs.YtggamdlpiejbiaaGreat
namespace Go.Proofs.YtggamdlpiejbiaaGreat
open Go.RowKit Go.Shelf

set_option maxHeartbeats 1000000 in
theorem allF_spec (A0 : HP) (a : Option Addr) (c : Nat) (bs : List Int) (hA : RdsL [A0] a (XM bs)) (hbs : ∀ x ∈ bs, 0 ≤ x ∧ x ≤ 255) (hbl : bs.length ≤ 1000000000) (gb y : Nat) (J Jx : Nat → List HP → Prop) (hY : ∀ k (_ : k < 8 * bs.length) m, J k m → Yld Tryz.prog y ([.int .i64 (k : Int), .int .i64 (bitAt bs k)] : List Value).toArray m (rdR J Jx k)) (m0 : List HP) (h0 : J 0 m0) : Fn Tryz.prog 208 #[.func (.yield y) #[] #[], .pointer (some ⟨gb, 0, none⟩)] (Qz gb [.slice a bs.length c] 22 :: A0 :: m0) (fun _ l => ∃ m', (J (8 * bs.length) m' ∨ ∃ k, k < 8 * bs.length ∧ Jx k m') ∧ l = Qz gb [.slice a bs.length c] 22 :: A0 :: m') := by
 refine Qo (vs := [.func (.yield y) #[] #[], .pointer (some ⟨gb, 0, none⟩)]) Tryz.func208 rfl Tryz.ntmps208 rfl ?_
 refine Qb (Qa (Qn rfl rfl (by rfl) ?_))
 refine QM rfl rfl (Qc rfl rfl (WpL.nil (Wp.block ?_)))
 refine Wp.loopD (σ := NmX) (fun x => x.k ≤ bs.length ∧ J (8 * x.k) x.m) [3, 4, 5, 6, 9, 10, 11, 12, 13, 14, 15, 16, 17, 18, 19, 20, 21, 22, 23, 24, 25, 26, 27, 28, 29] (fun x => [(9, .int .i64 (x.k : Int))]) (fun x => Qz gb [.slice a bs.length c] 22 :: A0 :: x.m) (fun x => bs.length - x.k) ⟨0, m0⟩ ?_ (by repeat (first | exact FrLe.nil | refine FrLe.cons rfl ?_)) ?_ ?_
 ·exact ⟨Nat.zero_le _, h0⟩
 ·exact Ent.refl _
 ·rintro ⟨k, m1⟩ ⟨hk, hJ⟩
  dsimp only at hk hJ ⊢
  refine Qb (Qa (Q9 rfl rfl rfl (WpL.nil (Qb (Qh rfl (fun h1 => ?_) (fun h1 => ?_))))))
  ·have hlt : k < bs.length := by omega
   have hb := hbs _ (List.getElem_mem hlt)
   refine Wp.skip (Qb (Wp.block ?_))
   refine Qb (Qa (Qc rfl rfl (Xo k rfl rfl rfl hA (by exact Take.ent' (by repeat' constructor)) rfl (by omega) (by rw [XA]; omega) ?_)))
   refine Xp rfl rfl hA (by exact Take.ent' (by repeat' constructor)) (Zk bs hlt) ?_
   refine Qd rfl rfl (Qd rfl rfl (WpL.nil (Qb (Qa (Qc rfl rfl (Qj rfl rfl (by repeat' constructor) (eighth_spec _ hb.1 hb.2) ?_))))))
   rintro _ _ ⟨rfl, rfl⟩
   simp only [Qv]
   refine Qc rfl rfl (WpL.nil (Wp.block ?_))
   refine Wp.loopD (σ := JmX) (fun z => z.j ≤ 8 ∧ J (8 * k + z.j) z.m) [5, 6, 16, 17, 18, 19, 20, 21, 22, 23, 24, 25, 26, 27, 28] (fun z => [(16, .int .i64 (z.j : Int))]) (fun z => Qz gb [.slice a bs.length c] 22 :: A0 :: z.m) (fun z => 8 - z.j) ⟨0, m1⟩ ?_ (by repeat (first | exact FrLe.nil | refine FrLe.cons rfl ?_)) ?_ ?_
   ·exact ⟨Nat.zero_le _, hJ⟩
   ·exact Ent.refl _
   ·rintro ⟨j, m2⟩ ⟨hj, hJ2⟩
    dsimp only at hj hJ2 ⊢
    refine Qb (Qa (Q9 rfl rfl rfl (WpL.nil (Qb (Qh rfl (fun h3 => ?_) (fun h3 => ?_))))))
    ·have hlj : j < 8 := by omega
     have hY1 := hY (8 * k + j) (by omega) m2 hJ2
     rw [bitAt_at hlt hlj, show (((8 * k + j : Nat)) : Int) = 8 * (k : Int) + (j : Int) by omega] at hY1
     refine Wp.skip (Qb (Wp.block ?_))
     refine Qb (Qa (Qc rfl rfl (s_ixav (k := j) rfl rfl rfl rfl (by omega) (eight_at _ hlj) ?_)))
     refine Qd rfl rfl (Qd rfl rfl (WpL.nil (Qb (Qa (Qc rfl rfl (Qc rfl rfl (XU rfl rfl rfl (Qp (by omega) (by omega)) ?_)))))))
     refine Qc rfl rfl (Qw rfl rfl rfl (Qp (by omega) (by omega)) ?_)
     refine Qc rfl rfl (s_yield rfl rfl rfl rfl (by repeat (first | exact Take.all | apply Take.skip)) (hY1) ?_)
     rintro v m' (⟨rfl, hm'⟩ | ⟨rfl, hm'⟩)
     ·simp only [Qv]
      refine Zz rfl rfl (WpL.nil (QR rfl (Wp.skip (Qa (Qw rfl rfl rfl (Qp (by omega) (by omega)) ?_)))))
      refine Qc rfl rfl (WpL.nil (Qq (⟨j + 1, m'⟩ : JmX) ?_ ?_ (by ((repeat (first | exact Top.refl | refine Top.push rfl ?_)); done)) (by repeat (first | exact FrLe.nil | refine FrLe.cons rfl ?_)) ?_))
      ·exact ⟨by simp only; omega, hm'⟩
      ·simp only; omega
      ·exact Ent.refl _
     ·simp only [Qv]
      refine Zz rfl rfl (WpL.nil (Xg rfl (Qg ?_)))
      apply RetQ.mk
      ·exact (Y9 rfl)
      ·exact ⟨m', .inr ⟨_, by omega, hm'⟩, rfl⟩
      ·exact Ent.refl _
    ·refine QS (Qa (Qw rfl rfl rfl (Qp (by omega) (by omega)) ?_))
     refine Qc rfl rfl (WpL.nil (Qq (⟨k + 1, m2⟩ : NmX) ?_ ?_ (by ((repeat (first | exact Top.refl | refine Top.push rfl ?_)); done)) (by repeat (first | exact FrLe.nil | refine FrLe.cons rfl ?_)) ?_))
     ·exact ⟨by simp only; omega, by simp only; rw [show 8 * (k + 1) = 8 * k + j by omega]; exact hJ2⟩
     ·simp only; omega
     ·exact Ent.refl _
  ·refine QS ?_
   apply Z5
   ·exact (Y9 rfl)
   ·have hke : k = bs.length := by omega
    rw [hke] at hJ
    exact ⟨m1, .inl hJ, rfl⟩
   ·exact Ent.refl _


theorem all_iter (A0 : HP) (a : Option Addr) (c : Nat) (bs : List Int) (hA : RdsL [A0] a (XM bs)) (hbs : ∀ x ∈ bs, 0 ≤ x ∧ x ≤ 255) (hbl : bs.length ≤ 1000000000) (gb : Nat) :
    Iter Tryz.prog 208 [.pointer (some ⟨gb, 0, none⟩)] (fun k : Nat => [.int .i64 (k : Int), .int .i64 (bitAt bs k)]) (List.range (8 * bs.length)) [Qz gb [.slice a bs.length c] 22, A0] [Qz gb [.slice a bs.length c] 22, A0] := by
  intro y J Jx hY m h0
  have hl : (List.range (8 * bs.length)).length = 8 * bs.length := List.length_range
  rw [hl]
  have h := allF_spec A0 a c bs hA hbs hbl gb y J Jx (fun k hk m hJ => by have := hY k (by rw [hl]; exact hk) m hJ; simpa using this) m h0
  exact h.mono fun v l hv => ⟨l, by obtain ⟨m', hm, rfl⟩ := hv; exact ⟨m', hm, rfl⟩, Ent.refl _⟩

theorem all_spec (A0 : HP) (a : Option Addr) (c : Nat) (bs : List Int) : Fn Tryz.prog 203 #[.slice a bs.length c] [A0] (fun v l => ∃ gb, v = .func (.func 208) #[] #[.pointer (some ⟨gb, 0, none⟩)] ∧ l = [Qz gb [.slice a bs.length c] 22, A0]) := by
 refine Qo (vs := [.slice a bs.length c]) Tryz.func203 rfl Tryz.ntmps203 rfl (Qb (Qa (Xb rfl rfl rfl ?_)))
 intro g1
 refine Qd rfl rfl (WpL.nil (Qb (Qa (s_mkf rfl (fun a hh => ZE hh _ _ rfl) ?_))))
 refine Qd rfl rfl (WpL.nil (Qg ?_))
 apply RetQ.mk
 ·exact (Res.one rfl rfl)
 ·exact ⟨_, rfl, rfl⟩
 ·exact Ent.refl _

end Go.Proofs.YtggamdlpiejbiaaGreat
namespace Go.Proofs.YtggamdlpiejbiaaGreat
open Go.RowKit Go.Shelf

theorem UnpackB_spec (A0 : HP) (a : Option Addr) (c : Nat) (bs : List Int) (hA : RdsL [A0] a (XM bs)) (hbs : ∀ x ∈ bs, 0 ≤ x ∧ x ≤ 255) (hbl : bs.length ≤ 1000000000) (W : Nat) (hW : 1 ≤ W ∧ W ≤ 4096) (hn : bs.length = (W + 7) / 8) (hc : bs.length ≤ c) : Fn Tryz.prog 194 #[.slice a bs.length c, .int .i64 (W : Int)] [A0] (fun v l => ∃ a' c', v = .tuple #[.slice a' W c', .int .i64 0] ∧ l = [own 3 1 a' c' W (Q3 (YT bs W)), A0]) := by
 refine Qo (vs := [.slice a bs.length c, .int .i64 (W : Int)]) Tryz.func194 rfl Tryz.ntmps194 rfl (Qb (Qa (Xb rfl rfl rfl ?_)))
 intro g1
 refine Qd rfl rfl (Qd rfl rfl (WpL.nil (Qb (Qa (Qn rfl rfl (by rfl) ?_)))))
 refine Qj rfl rfl (by repeat' constructor) (Bytes_spec _ (by omega)) ?_
 rintro _ _ ⟨rfl, rfl⟩
 simp only [Qv]
 refine Qd rfl rfl (WpL.nil (Qb (Wp.block ?_)))
 refine Qb (Qa (Qc rfl rfl (QI rfl rfl rfl (Qd rfl rfl (WpL.nil (Qy rfl (by omega) ?_))))))
 refine Qb (Qa (Qc rfl rfl (QM rfl rfl (Qc rfl rfl (Q9 rfl rfl rfl (Qd rfl rfl (WpL.nil (Qy rfl (by omega) ?_))))))))
 refine Wp.skip (Qb (Qa (X1 rfl ?_)))
 intro g2
 refine WpL.nil (Qb (Qb (Qa (Qc rfl rfl (Qc rfl rfl (s_sll_h (H := bs.length) rfl rfl rfl (by omega) (by omega) ?_))))))
 refine Qj rfl rfl (by repeat' constructor) (all_spec A0 a c bs) ?_
 rintro _ _ ⟨gb, rfl, rfl⟩
 simp only [Qv]
 refine WpL.nil (Wp.block ?_)
 refine Wp.rangeF (encs := fun k : Nat => [.int .i64 (k : Int), .int .i64 (bitAt bs k)]) (xs := List.range (8 * bs.length)) (own := [Qz gb [.slice a bs.length c] 22, A0]) (own' := [Qz gb [.slice a bs.length c] 22, A0]) (m0 := [Qz g2 [.slice none 0 0] 26, Qz g1 [.int .i64 (W : Int)] 3, own 3 1 none 0 0 []]) rfl rfl (all_iter A0 a c bs hA hbs hbl gb) (fun _ => rfl) rfl (fun k m => ∃ a9 c9, m = [Qz g2 [.slice a9 (min k W) c9] 26, Qz g1 [.int .i64 (W : Int)] 3, own 3 1 a9 c9 (min k W) (Q3 (YT bs (min k W)))]) (fun _ _ _ => False) ?_ ?_ ?_ ?_ ?_
 ·exact ⟨none, 0, by rw [Nat.zero_min]; rfl⟩
 ·simp only [Qv]
  exact (Ent.own_nil (T := 3) (s := 1) (Ent.refl _)).trans (Take.ent' (by repeat' constructor))
 ·intro y k hk m hm
  obtain ⟨a9, c9, rfl⟩ := hm
  rw [List.getElem_range]
  rw [List.length_range] at hk
  refine Qb (Qa (Qd rfl rfl (WpL.nil (Qa (Qd rfl rfl (WpL.nil (⟨rfl, rfl, ?_⟩)))))))
  refine Wp.block ?_
  refine Qb (Qa (Qc rfl rfl (Qn rfl rfl (by rfl) ?_)))
  refine Q9 rfl rfl rfl (WpL.nil (Qh rfl (fun h3 => ?_) (fun h3 => ?_)))
  ·rw [Nat.min_eq_left (show k ≤ W by omega)]
   refine Qa (Qn rfl rfl (by rfl) ?_)
   refine Qc rfl rfl ?_
   refine X6 rfl rfl rfl rfl ?_
   intro g3
   refine Xx rfl rfl rfl (by repeat' constructor) (by rfl) (by rfl) (by rfl) (by rfl) (by omega) (by omega) ?_
   intro a32 c32
   refine QN rfl rfl rfl (WpL.nil ?_)
   rw [X3, ubits_snoc]
   refine ⟨_, ⟨a32, c32, rfl⟩, ?_⟩
   rw [Nat.min_eq_left (show k + 1 ≤ W by omega)]
   exact Take.ent' (by repeat' constructor)
  ·rw [Nat.min_eq_right (show W ≤ k by omega)]
   refine Wp.skip (⟨_, ⟨a9, c9, rfl⟩, ?_⟩)
   rw [Nat.min_eq_right (show W ≤ k + 1 by omega)]
   exact Ent.refl _
 ·intro q1 m hm
  obtain ⟨a9, c9, rfl⟩ := hm
  rw [List.length_range]
  simp only [Qv]
  rw [Nat.min_eq_right (show W ≤ 8 * bs.length by omega)]
  refine Qb (Qa (Qn rfl rfl (by rfl) ?_))
  refine Qd rfl rfl (Qd rfl rfl (WpL.nil (Qg ?_)))
  apply RetQ.mkR [q1] rfl (by repeat' constructor)
  ·exact (QT rfl rfl rfl)
  ·exact ⟨a9, c9, rfl, rfl⟩
  ·exact Take.ent' (by repeat' constructor)
 ·exact fun _ _ _ _ _ h => h.elim

end Go.Proofs.YtggamdlpiejbiaaGreat
namespace Go.Proofs.YtggamdlpiejbiaaGreat
open Go.RowKit Go.Shelf

theorem u8s_zero (N : Nat) : List.replicate N (Value.int .u8 0) = XM (List.replicate N 0) := by simp [XM]
end Go.Proofs.YtggamdlpiejbiaaGreat
