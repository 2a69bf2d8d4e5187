/- Walks. -/
import Derived.Test.YtpoahaadnbdgcaaLw4
import Derived.Test.YtpoahaadnbdgcaaMem
namespace Go.Proofs.Ytpoahaadnbdgcaa
open Go.RowKit Go.Shelf


/-- A number's digits, the lowest first. -/
def lowD (b n : Nat) : List Int := if _h : n < b ∨ b < 2 then [((n % b : Nat) : Int)] else ((n % b : Nat) : Int) :: lowD b (n / b)
termination_by n
decreasing_by exact Nat.div_lt_self (by omega) (by omega)
theorem lowD_lt {b n : Nat} (h : n < b) : lowD b n = [((n % b : Nat) : Int)] := by rw [lowD, dif_pos (.inl h)]
theorem lowD_ge {b n : Nat} (h : b ≤ n) (hb : 2 ≤ b) : lowD b n = ((n % b : Nat) : Int) :: lowD b (n / b) := by rw [lowD, dif_neg (by omega)]
theorem lowD_head (b n : Nat) : ∃ t, lowD b n = ((n % b : Nat) : Int) :: t := by
  rw [lowD]
  split
  · exact ⟨_, rfl⟩
  · exact ⟨_, rfl⟩
theorem lowD_bd {b : Nat} (hb : 0 < b) (n : Nat) : ∀ x ∈ lowD b n, 0 ≤ x ∧ x < b := by
  induction n using Nat.strongRecOn with
  | _ n ih =>
    intro x hx
    have hm := Nat.mod_lt n hb
    rw [lowD] at hx
    split at hx
    · simp only [List.mem_singleton] at hx; subst hx; omega
    · rcases List.mem_cons.1 hx with rfl | hx
      · omega
      · exact ih (n / b) (Nat.div_lt_self (by omega) (by omega)) x hx
theorem drop_at0 {xs : List Int} {k : Nat} {x : Int} {t : List Int} (h : xs.drop k = x :: t) : ∃ hk : k < xs.length, xs[k] = x ∧ xs.drop (k + 1) = t := by
  have hk : k < xs.length := by
    have := congrArg List.length h
    simp at this; omega
  rw [List.drop_eq_getElem_cons hk] at h
  injection h with h1 h2
  exact ⟨hk, h1, h2⟩
theorem lowD_digs (n : Nat) : digs n = ((lowD 10 n).map fun x => 48 + x).reverse := by
  induction n using Nat.strongRecOn with
  | _ n ih =>
    by_cases h : n < 10
    · rw [lowD_lt h, digs, if_pos (by omega)]
      simp; omega
    · rw [lowD_ge (by omega) (by omega), digs, if_neg (by omega), ih (n / 10) (by omega)]
      simp
theorem lowD_len (b n : Nat) : (lowD b n).length ≤ n + 1 := by
  induction n using Nat.strongRecOn with
  | _ n ih =>
    rw [lowD]
    split
    · simp
    · have := ih (n / b) (Nat.div_lt_self (by omega) (by omega))
      have h2 := Nat.div_lt_self (n := n) (k := b) (by omega) (by omega)
      simp only [List.length_cons]; omega
theorem lowD_len20 {b n : Nat} (hb : 10 ≤ b) (k : Nat) (h : n < 10 ^ (k + 1)) : (lowD b n).length ≤ k + 1 := by
  induction k generalizing n with
  | zero =>
    rw [lowD_lt (by omega)]; simp
  | succ k ih =>
    by_cases h2 : n < b
    · rw [lowD_lt h2]; simp
    · rw [lowD_ge (by omega) (by omega)]
      have : n / b < 10 ^ (k + 1) := by
        apply Nat.div_lt_of_lt_mul
        calc n < 10 ^ (k + 1 + 1) := h
          _ = 10 * 10 ^ (k + 1) := by rw [Nat.pow_succ]; omega
          _ ≤ b * 10 ^ (k + 1) := Nat.mul_le_mul_right _ hb
      have := ih this
      simp; omega
structure DgX where
  (k n : Nat) (m : List HP)

theorem digitsF_spec (b n : Nat) (hb : 2 ≤ b) (hb2 : b ≤ 256) (hn : n < 18446744073709551616) (g1 g2 y : Nat) (J Jx : Nat → List HP → Prop) (hY : ∀ k (h : k < (lowD b n).length) m, J k m → Yld Try.prog y ([.int .u8 (lowD b n)[k]] : List Value).toArray m (rdR J Jx k)) (m0 : List HP) (h0 : J 0 m0) : Fn Try.prog 64 #[.func (.yield y) #[] #[], .pointer (some ⟨g1, 0, none⟩), .pointer (some ⟨g2, 0, none⟩)] (blk g1 [.int .u64 (n : Int)] 45 :: blk g2 [.int .u64 (b : Int)] 45 :: m0) (fun _ l => ∃ m', (J (lowD b n).length m' ∨ ∃ k, k < (lowD b n).length ∧ Jx k m') ∧ l = m') := by
  refine Fn.intro (vs := [.func (.yield y) #[] #[], .pointer (some ⟨g1, 0, none⟩), .pointer (some ⟨g2, 0, none⟩)]) Try.func64 rfl Try.ntmps64 rfl ?_
  refine Wp.block ?_
  refine Wp.loopD (σ := DgX) (fun x => J x.k x.m ∧ (lowD b n).drop x.k = lowD b x.n ∧ x.n < 18446744073709551616) [4, 5, 6, 7, 8, 9, 10, 11, 12, 13, 14, 15, 16, 17] (fun x => []) (fun x => (blk g1 [.int .u64 ((x.n : Nat) : Int)] 45 :: blk g2 [.int .u64 (b : Int)] 45 :: x.m)) (fun x => x.n) ⟨0, n, m0⟩ ?_ (by repeat (first | exact FrLe.nil | refine FrLe.cons rfl ?_)) ?_ ?_
  · exact ⟨h0, rfl, hn⟩
  · first | exact Ent.refl _ | exact Ent.nil _ | exact Take.ent' (by repeat' constructor) | (repeat (first | exact Ent.refl _ | refine Ent.drop ?_))
  · rintro ⟨k, n1, m1⟩ ⟨hJ, hd, hn1⟩
    dsimp only at hJ hd hn1 ⊢
    obtain ⟨t1, ht1⟩ := lowD_head b n1
    obtain ⟨hk, hxk, hdk⟩ := drop_at0 (hd.trans ht1)
    have hbpos : (0 : Int) < (b : Int) := by omega
    have hmod := Nat.mod_lt n1 (show 0 < b by omega)
    have hY1 := hY k hk m1 hJ
    rw [hxk] at hY1
    refine Wp.seq ?_
    refine Wp.seq ?_
    refine Wp.region ?_
    refine s_mv rfl rfl ?_
    refine s_ld rfl rfl (by rfl) ?_
    refine s_ld rfl rfl (by rfl) ?_
    refine s_rem rfl rfl rfl (by omega) (by omega) ?_
    rw [show ((n1 : Int) % (b : Int)) = ((n1 % b : Nat) : Int) from rfl]
    refine s_cvi rfl Try.underlying45 rfl (w_u8 (by omega) (by omega)) ?_
    refine s_yield rfl rfl rfl rfl (by repeat (first | exact Take.all | apply Take.skip)) (hY1) ?_
    rintro v m' (⟨rfl, hm'⟩ | ⟨rfl, hm'⟩)
    · simp only [napp]
      refine s_mv rfl rfl ?_
      refine WpL.gon rfl rfl ?_
      refine s_ld rfl rfl (by rfl) ?_
      refine WpL.gon rfl rfl ?_
      refine s_ld rfl rfl (by rfl) ?_
      refine WpL.gon rfl rfl ?_
      refine s_ge rfl rfl rfl ?_
      refine s_pickT rfl rfl rfl ?_
      refine WpL.nil ?_
      refine Wp.condD rfl (fun h1 => ?_) (fun h1 => ?_)
      · refine Wp.skip ?_
        refine Wp.block ?_
        refine Wp.region ?_
        refine s_ld rfl rfl (by rfl) ?_
        refine s_ld rfl rfl (by rfl) ?_
        refine s_quo rfl rfl rfl (by omega) (by omega) (w_u64 (Int.ediv_nonneg (by omega) (by omega)) (by have := Nat.div_le_self n1 b; have e : ((n1 : Int) / (b : Int)) = ((n1 / b : Nat) : Int) := rfl; omega)) ?_
        refine s_st rfl rfl rfl ?_
        refine WpL.nil ?_
        refine loopD.next (Q := fun _ _ _ _ => False) (⟨k + 1, n1 / b, m'⟩ : DgX) ?_ ?_ (by repeat (first | exact Top.refl | refine Top.push rfl ?_ | refine Top.drop rfl ?_)) (by repeat (first | exact FrLe.nil | refine FrLe.cons rfl ?_)) ?_
        · refine ⟨hm', ?_, Nat.lt_of_le_of_lt (Nat.div_le_self _ _) hn1⟩
          rw [hdk]
          rw [lowD_ge (by omega) hb] at ht1
          injection ht1 with _ ht1
          exact ht1.symm
        · exact Nat.div_lt_self (by omega) (by omega)
        · first | exact Ent.refl _ | exact Ent.nil _ | exact Take.ent' (by repeat' constructor) | (repeat (first | exact Ent.refl _ | refine Ent.drop ?_))
      · refine Wp.exit ?_
        apply RetQ.nm
        · exact (Res.none rfl)
        · exact ⟨m', .inl (by rw [show (lowD b n).length = k + 1 from by have e1 := congrArg List.length hdk; rw [lowD_lt (by omega)] at ht1; injection ht1 with _ ht1; rw [← ht1] at e1; simp at e1; omega]; exact hm'), rfl⟩
        · first | exact Ent.refl _ | exact Ent.nil _ | exact Take.ent' (by repeat' constructor) | (repeat (first | exact Ent.refl _ | refine Ent.drop ?_))
    · simp only [napp]
      refine s_mv rfl rfl ?_
      refine WpL.goff rfl rfl rfl (by decide) ?_
      refine WpL.goff rfl rfl rfl (by decide) ?_
      refine WpL.goff rfl rfl rfl (by decide) ?_
      refine s_pickF rfl rfl rfl ?_
      refine WpL.nil ?_
      refine Wp.condF rfl ?_
      refine Wp.exit ?_
      apply RetQ.nm
      · exact (Res.none rfl)
      · exact ⟨m', .inr ⟨k, hk, hm'⟩, rfl⟩
      · first | exact Ent.refl _ | exact Ent.nil _ | exact Take.ent' (by repeat' constructor) | (repeat (first | exact Ent.refl _ | refine Ent.drop ?_))


structure RvX where
  (k : Nat) (ys : List Int)
def revK (xs : List Int) (k : Nat) (ys : List Int) : Prop := ys.length = xs.length ∧ ∀ i, i < xs.length → ys[i]? = if i < k ∨ xs.length ≤ i + k then xs[xs.length - 1 - i]? else xs[i]?
theorem revK_zero (xs : List Int) : revK xs 0 xs := ⟨rfl, fun i hi => by rw [if_neg (by omega)]⟩
theorem revK_done {xs ys : List Int} {k : Nat} (h : revK xs k ys) (hk : xs.length ≤ 2 * k + 1) : ys = xs.reverse := by
  apply List.ext_getElem?
  intro i
  by_cases hi : i < xs.length
  · rw [h.2 i hi, List.getElem?_reverse hi]
    split
    · rfl
    · rename_i hc
      rw [show xs.length - 1 - i = i by omega]
  · rw [List.getElem?_eq_none (by rw [h.1]; omega), List.getElem?_eq_none (by simp; omega)]
theorem revK_step {xs ys : List Int} {k : Nat} (h : revK xs k ys) (hk : 2 * k + 1 < xs.length) (h1 : xs.length - 1 - k < ys.length) (h2 : k < ys.length) : revK xs (k + 1) ((ys.set k ys[xs.length - 1 - k]).set (xs.length - 1 - k) ys[k]) := by
  have e1 : ys[k] = xs[k]'(by omega) := by
    have := h.2 k (by omega)
    rw [if_neg (by omega), List.getElem?_eq_getElem h2, List.getElem?_eq_getElem (by omega)] at this
    exact Option.some.inj this
  have e2 : ys[xs.length - 1 - k] = xs[xs.length - 1 - k]'(by omega) := by
    have := h.2 (xs.length - 1 - k) (by omega)
    rw [if_neg (by omega), List.getElem?_eq_getElem h1, List.getElem?_eq_getElem (by omega)] at this
    exact Option.some.inj this
  refine ⟨by simp [h.1], fun i hi => ?_⟩
  rw [List.getElem?_set, List.getElem?_set]
  simp only [List.length_set]
  by_cases a : xs.length - 1 - k = i
  · subst a
    rw [if_pos rfl, if_pos h1, if_pos (by omega), e1, show xs.length - 1 - (xs.length - 1 - k) = k by omega, List.getElem?_eq_getElem (by omega)]
  · rw [if_neg a]
    by_cases b : k = i
    · subst b
      rw [if_pos rfl, if_pos h2, if_pos (by omega), e2, List.getElem?_eq_getElem (by omega)]
    · rw [if_neg b, h.2 i hi]
      by_cases c : i < k ∨ xs.length ≤ i + k
      · rw [if_pos c, if_pos (by omega)]
      · rw [if_neg c, if_neg (by omega)]
theorem set_map {α : Type} (f : Int → α) (xs : List Int) (k : Nat) (x : Int) : (xs.map f).set k (f x) = (xs.set k x).map f := (List.map_set ..).symm
theorem u8s_set (xs : List Int) (k : Nat) (x : Int) : (u8s xs).set k (.int .u8 x) = u8s (xs.set k x) := set_map _ xs k x
theorem ints_set (xs : List Int) (k : Nat) (x : Int) : (ints xs).set k (.int .i64 x) = ints (xs.set k x) := set_map _ xs k x
theorem pxs_set (xs : List Int) (k : Nat) (x : Int) : (pxs xs).set k (.int .u64 x) = pxs (xs.set k x) := set_map _ xs k x

theorem RevB_spec (a : Option Addr) (c : Nat) (xs : List Int) (hm : xs.length ≤ 140737488355328) : Fn Try.prog 50 #[.slice a xs.length c] [own 5 1 a c xs.length (u8s xs)] (fun _ l => l = [own 5 1 a c xs.length (u8s xs.reverse)]) := by
  refine Fn.intro (vs := [.slice a xs.length c]) Try.func50 rfl Try.ntmps50 rfl ?_
  refine Wp.seq ?_
  refine Wp.region ?_
  refine s_mv rfl rfl ?_
  refine s_lenl rfl rfl ?_
  first | refine s_sub rfl rfl rfl (w_i64 (by omega) (by omega)) ?_ | refine s_subw rfl rfl rfl ?_
  refine s_as rfl rfl ?_
  refine s_as rfl rfl ?_
  refine WpL.nil ?_
  refine Wp.block ?_
  refine Wp.loopD (σ := RvX) (fun x => 2 * x.k ≤ xs.length ∧ revK xs x.k x.ys) [2, 3, 7, 8, 9, 10, 11, 12, 13, 14, 15, 16, 17, 18, 19, 20, 21, 22, 23, 24, 25, 26, 27] (fun x => [(2, .int .i64 (x.k : Int)), (3, .int .i64 ((xs.length : Int) - 1 - x.k))]) (fun x => [own 5 1 a c xs.length (u8s x.ys)]) (fun x => xs.length - x.k) ⟨0, xs⟩ ?_ (FrLe.cons rfl (FrLe.cons (by simp [lk]) FrLe.nil)) ?_ ?_
  · exact ⟨by simp, revK_zero xs⟩
  · first | exact Ent.refl _ | exact Ent.nil _ | exact Take.ent' (by repeat' constructor) | (repeat (first | exact Ent.refl _ | refine Ent.drop ?_))
  · rintro ⟨k, ys⟩ ⟨hk, hr⟩
    dsimp only at hk hr ⊢
    have hyl := hr.1
    refine Wp.seq ?_
    refine Wp.seq ?_
    refine Wp.region ?_
    refine s_mv rfl rfl ?_
    refine s_mv rfl rfl ?_
    refine s_lt rfl rfl rfl ?_
    refine WpL.nil ?_
    refine Wp.condD rfl (fun h1 => ?_) (fun h1 => ?_)
    · have h1 : xs.length - 1 - k < ys.length := by omega
      have h2 : k < ys.length := by omega
      refine Wp.skip ?_
      refine Wp.seq ?_
      refine Wp.block ?_
      apply Wp.drawGN (fB := []) mixed [(13, false), (1, false)] (by kernel_rfl)
      apply GoR.segF [⟨0, 14, _, [], false⟩, ⟨1, 15, _, [], false⟩, ⟨2, 16, _, [], true⟩, ⟨3, 17, _, [], true⟩, ⟨4, 18, _, [], false⟩, ⟨5, 19, _, [], false⟩, ⟨6, 20, _, [4, 5], false⟩, ⟨7, 21, _, [6], false⟩, ⟨8, 22, _, [], false⟩, ⟨9, 23, _, [], false⟩, ⟨10, 24, _, [8, 9], false⟩, ⟨11, 25, _, [10], false⟩, ⟨12, 26, _, [0, 1, 4, 5, 6, 7, 11], false⟩] [] [0, 1, 4, 5, 6, 7, 8, 9, 10, 11, 12] [27, 16, 17] ⟨_, .nil⟩ rfl rfl rfl (by kernel_rfl) rfl rfl rfl
      · refine AllF.cons rfl rfl rfl rfl ?_ ?_
        · refine s_mv rfl rfl ?_
          exact obN rfl
        refine AllF.cons rfl rfl rfl rfl ?_ ?_
        · refine s_mv rfl rfl ?_
          exact obN rfl
        refine AllF.consR rfl rfl rfl rfl ?_ ?_
        · refine s_mv rfl rfl ?_
          exact obN rfl
        refine AllF.consR rfl rfl rfl rfl ?_ ?_
        · refine s_mv rfl rfl ?_
          exact obN rfl
        refine AllF.cons rfl rfl rfl rfl ?_ ?_
        · refine s_mv rfl rfl ?_
          exact obN rfl
        refine AllF.cons rfl rfl rfl rfl ?_ ?_
        · refine s_mv rfl rfl ?_
          exact obN rfl
        refine AllF.cons rfl rfl rfl rfl ?_ ?_
        · refine s_ixa (xs.length - 1 - k) rfl rfl rfl RdsL.own (by first | exact Take.ent' (by repeat' constructor) | (repeat (first | exact Ent.refl _ | refine Ent.drop ?_))) (by omega) (by omega) (by rw [u8s_len]; omega) ?_
          exact obN rfl
        refine AllF.cons rfl rfl rfl rfl ?_ ?_
        · refine s_ldx rfl rfl RdsL.own (by first | exact Take.ent' (by repeat' constructor) | (repeat (first | exact Ent.refl _ | refine Ent.drop ?_))) (u8s_at ys h1) ?_
          exact obN rfl
        refine AllF.cons rfl rfl rfl rfl ?_ ?_
        · refine s_mv rfl rfl ?_
          exact obN rfl
        refine AllF.cons rfl rfl rfl rfl ?_ ?_
        · refine s_mv rfl rfl ?_
          exact obN rfl
        refine AllF.cons rfl rfl rfl rfl ?_ ?_
        · refine s_ixa k rfl rfl rfl RdsL.own (by first | exact Take.ent' (by repeat' constructor) | (repeat (first | exact Ent.refl _ | refine Ent.drop ?_))) rfl (by omega) (by rw [u8s_len]; omega) ?_
          exact obN rfl
        refine AllF.cons rfl rfl rfl rfl ?_ ?_
        · refine s_ldx rfl rfl RdsL.own (by first | exact Take.ent' (by repeat' constructor) | (repeat (first | exact Ent.refl _ | refine Ent.drop ?_))) (u8s_at ys h2) ?_
          exact obN rfl
        refine AllF.cons rfl rfl rfl rfl ?_ ?_
        · refine s_ixa k rfl rfl rfl RdsL.own (by first | exact Take.ent' (by repeat' constructor) | (repeat (first | exact Ent.refl _ | refine Ent.drop ?_))) rfl (by omega) (by rw [u8s_len]; omega) ?_
          exact obN rfl
        exact AllF.nil
      · refine s_sto rfl rfl rfl (by repeat' constructor) (by rw [u8s_len]; omega) ?_
        refine WpL.nil ⟨rfl, rfl, ?_⟩
        apply GoR.segF [⟨14, 27, _, [0, 1, 2, 3, 4, 5, 6, 7, 8, 9, 10, 11, 12, 13], false⟩] [2, 3] [2, 3, 14] [] ⟨_, .nil⟩ rfl rfl rfl (by kernel_rfl) rfl rfl rfl
        · refine AllF.cons rfl rfl rfl rfl ?_ ?_
          · refine s_ixa (xs.length - 1 - k) rfl rfl rfl RdsL.own (by first | exact Take.ent' (by repeat' constructor) | (repeat (first | exact Ent.refl _ | refine Ent.drop ?_))) (by omega) (by omega) (by rw [List.length_set, u8s_len]; omega) ?_
            exact obN rfl
          exact AllF.nil
        · refine s_sto rfl rfl rfl (by repeat' constructor) (by rw [List.length_set, u8s_len]; omega) ?_
          refine WpL.nil ⟨rfl, rfl, ?_⟩
          apply GoR.nil [] ⟨_, .nil⟩ rfl rfl
          · exact AllF.nil
          · refine Wp.region ?_
            refine s_mv rfl rfl ?_
            first | refine s_add rfl rfl rfl (w_i64 (by omega) (by omega)) ?_ | refine s_addw rfl rfl rfl ?_
            refine s_mv rfl rfl ?_
            first | refine s_sub rfl rfl rfl (w_i64 (by omega) (by omega)) ?_ | refine s_subw rfl rfl rfl ?_
            refine s_as rfl rfl ?_
            refine s_as rfl rfl ?_
            refine WpL.nil ?_
            refine loopD.next (⟨k + 1, (ys.set k (ys[xs.length - 1 - k]'h1)).set (xs.length - 1 - k) (ys[k]'h2)⟩ : RvX) ?_ ?_ (by repeat (first | exact Top.refl | refine Top.push rfl ?_ | refine Top.drop rfl ?_)) (FrLe.cons rfl (FrLe.cons (congrArg (fun x => some (Value.int .i64 x)) (show ((xs.length : Int) - 1 - (k : Int) - 1) = (xs.length : Int) - 1 - ((k + 1 : Nat) : Int) by omega)) FrLe.nil)) ?_
            · exact ⟨by simp only; omega, revK_step hr (by omega) h1 h2⟩
            · simp only; omega
            · rw [u8s_set, u8s_set]; exact Ent.refl _
    · refine Wp.exit ?_
      have he := revK_done hr (by omega)
      subst he
      apply RetQ.nm
      · exact (Res.none rfl)
      · exact rfl
      · first | exact Ent.refl _ | exact Ent.nil _ | exact Take.ent' (by repeat' constructor) | (repeat (first | exact Ent.refl _ | refine Ent.drop ?_))

theorem digitsM_spec (n b : Int) : Fn Try.prog 49 #[.int .u64 n, .int .u64 b] [] (fun v l => ∃ g1 g2, v = .func (.func 64) #[] #[.pointer (some ⟨g1, 0, none⟩), .pointer (some ⟨g2, 0, none⟩)] ∧ l = [blk g1 [.int .u64 n] 45, blk g2 [.int .u64 b] 45]) := by
  refine Fn.intro (vs := [.int .u64 n, .int .u64 b]) Try.func49 rfl Try.ntmps49 rfl ?_
  refine Wp.seq ?_
  refine Wp.region ?_
  refine s_box rfl rfl rfl ?_
  intro g1
  refine s_box rfl rfl rfl ?_
  intro g2
  refine s_as rfl rfl ?_
  refine WpL.nil ?_
  refine Wp.seq ?_
  refine Wp.region ?_
  refine s_mkf rfl (fun a hh => evs_map hh _ _ rfl) ?_
  refine s_as rfl rfl ?_
  refine WpL.nil ?_
  refine Wp.ret ?_
  apply RetQ.mk
  · exact (Res.one rfl rfl)
  · exact ⟨_, _, rfl, rfl⟩
  · first | exact Ent.refl _ | exact Ent.nil _ | exact Take.ent' (by repeat' constructor) | (repeat (first | exact Ent.refl _ | refine Ent.drop ?_))


theorem map_take_snoc {f : Int → Int} (xs : List Int) {k : Nat} (h : k < xs.length) : (xs.take k).map f ++ [f xs[k]] = (xs.take (k + 1)).map f := by
  rw [take_snoc' xs h, List.map_append]; rfl
theorem digs_bd (n : Nat) : ∀ x ∈ digs n, 48 ≤ x ∧ x ≤ 57 := by
  intro x hx
  rw [lowD_digs, List.mem_reverse, List.mem_map] at hx
  obtain ⟨y, hy, rfl⟩ := hx
  have := lowD_bd (b := 10) (by omega) n y hy
  omega

theorem NDec_spec (n : Int) (h0 : 0 ≤ n) (h1 : n < 9223372036854775808) : Fn Try.prog 28 #[.int .i64 n] [] (fun v l => v = .string (strOfNums (digs n.toNat)) ∧ l = []) := by
  have hlen := lowD_len20 (b := 10) (n := n.toNat) (by omega) 18 (by omega)
  refine Fn.intro (vs := [.int .i64 n]) Try.func28 rfl Try.ntmps28 rfl ?_
  refine Wp.seq ?_
  refine Wp.region ?_
  refine s_as rfl rfl ?_
  refine WpL.nil ?_
  refine Wp.seq ?_
  refine Wp.region ?_
  refine s_mv rfl rfl ?_
  first | refine s_cvi rfl Try.underlying3 rfl (w_u64 (by omega) (by omega)) ?_ | refine s_cviw rfl Try.underlying3 rfl ?_
  refine s_as rfl rfl ?_
  refine WpL.nil ?_
  refine Wp.seq ?_
  refine Wp.region ?_
  refine s_al rfl ?_
  intro g3
  refine WpL.nil ?_
  refine Wp.seq ?_
  refine Wp.seq ?_
  refine Wp.region ?_
  refine s_mv rfl rfl ?_
  refine s_lt rfl rfl rfl ?_
  refine WpL.nil ?_
  refine Wp.condDF rfl (by omega) ?_
  refine Wp.skip ?_
  refine Wp.seq ?_
  refine Wp.seq ?_
  refine Wp.region ?_
  refine s_mv rfl rfl ?_
  refine s_callf rfl rfl (by repeat' constructor) (digitsM_spec _ _) ?_
  rintro _ _ ⟨g1, g2, rfl, rfl⟩
  simp only [napp]
  refine WpL.nil ?_
  refine Wp.block ?_
  refine Wp.rangeF (encs := fun (x : Int) => [Value.int .u8 x]) (xs := lowD 10 n.toNat) (own := [blk g1 [.int .u64 n] 45, blk g2 [.int .u64 10] 45]) (own' := []) (m0 := [blk g3 [.slice none 0 0] 28, own 5 1 none 0 0 []]) rfl rfl (fun y J Jx hY m h0 => (show n = ((n.toNat : Nat) : Int) by omega) ▸ digitsF_spec 10 n.toNat (by omega) (by omega) (by omega) g1 g2 y J Jx hY m h0) (fun _ => rfl) rfl (fun k m => ∃ a c, m = [blk g3 [.slice a k c] 28, own 5 1 a c k (u8s (((lowD 10 n.toNat).take k).map fun x => 48 + x))]) (fun _ _ _ => False) ?_ ?_ ?_ ?_ ?_
  · exact ⟨none, 0, rfl⟩
  · exact (Ent.own_nil (T := 5) (s := 1) (Ent.refl _)).trans (Take.ent' (by repeat' constructor))
  · intro y k hk m hm
    obtain ⟨a1, c1, rfl⟩ := hm
    refine Wp.region ?_
    refine s_as rfl rfl ?_
    refine WpL.nil ?_
    refine ⟨rfl, rfl, ?_⟩
    have hx := lowD_bd (b := 10) (by omega) n.toNat (lowD 10 n.toNat)[k] (List.getElem_mem hk)
    refine Wp.block ?_
    refine Wp.region ?_
    refine s_ld rfl rfl (by rfl) ?_
    refine s_mv rfl rfl ?_
    first | refine s_add rfl rfl rfl (w_u8 (by omega) (by omega)) ?_ | refine s_addw rfl rfl rfl ?_
    refine s_bs1 rfl rfl rfl rfl ?_
    intro g2
    refine s_app1 rfl rfl rfl (by repeat' constructor) (by rfl) (by rfl) (by rfl) (by rfl) (by first | omega | (simp only [List.length_append, List.length_cons, List.length_nil] at *; omega)) (by first | omega | (simp only [List.length_append, List.length_cons, List.length_nil] at *; omega)) ?_
    intro a19 c19
    refine s_st rfl rfl rfl ?_
    refine WpL.nil ?_
    rw [u8s_snoc, map_take_snoc (f := fun x => 48 + x) _ hk]
    exact ⟨_, ⟨a19, c19, rfl⟩, by first | exact Ent.refl _ | exact Ent.nil _ | exact Take.ent' (by repeat' constructor) | (repeat (first | exact Ent.refl _ | refine Ent.drop ?_))⟩
  · intro q1 m hm
    obtain ⟨a1, c1, rfl⟩ := hm
    simp only [napp]
    rw [List.take_length, show (lowD 10 n.toNat).length = ((lowD 10 n.toNat).map fun x => 48 + x).length from by simp]
    refine Wp.seq ?_
    refine Wp.seq ?_
    refine Wp.region ?_
    refine s_mv rfl rfl ?_
    refine s_lt rfl rfl rfl ?_
    refine WpL.nil ?_
    refine Wp.condDF rfl (by omega) ?_
    refine Wp.skip ?_
    refine Wp.seq ?_
    refine Wp.region ?_
    refine s_ld rfl rfl (by rfl) ?_
    refine s_callf rfl rfl (by repeat' constructor) (RevB_spec _ _ _ (by simp; omega)) ?_
    rintro _ _ rfl
    simp only [napp]
    refine WpL.nil ?_
    refine Wp.seq ?_
    refine Wp.region ?_
    refine s_ld rfl rfl (by rfl) ?_
    rw [← lowD_digs]
    refine s_b2so rfl Try.underlying28 Try.underlying5 Try.underlying9 rfl (by repeat' constructor) ?_
    refine s_as rfl rfl ?_
    refine WpL.nil ?_
    refine Wp.ret ?_
    apply RetQ.mkR [q1] rfl (by repeat' constructor)
    · exact (Res.one rfl rfl)
    · exact ⟨rfl, rfl⟩
    · first | exact Ent.refl _ | exact Ent.nil _ | exact Take.ent' (by repeat' constructor) | (repeat (first | exact Ent.refl _ | refine Ent.drop ?_))
  · exact fun _ _ _ _ _ h => h.elim


end Go.Proofs.Ytpoahaadnbdgcaa
