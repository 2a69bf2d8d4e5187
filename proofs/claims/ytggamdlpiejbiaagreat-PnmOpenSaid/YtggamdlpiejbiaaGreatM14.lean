/- Walks and plain laws, a part of the proof of PnmOpen: every input that the law's guards let in, no condition beside. -/
import Derived.Lib.Builder
import Derived.Laws.Externs
import Derived.Lib.UnsafeStr
import Derived.Lib.AppendStr
import Derived.Test.YtggamdlpiejbiaaGreatM13
namespace Go.Proofs.YtggamdlpiejbiaaGreat
open Go.RowKit Go.Shelf


def aroundI (x m : Int) : Int := (if x < 0 then -(x + 1) else x) % m
theorem aroundI_bd {x m : Int} (h : 1 ≤ m) : 0 ≤ aroundI x m ∧ aroundI x m < m := ⟨Int.emod_nonneg _ (by omega), Int.emod_lt_of_pos _ (by omega)⟩
theorem Around_spec (x m : Int) (h0 : -9223372036854775808 ≤ x) (h1 : x < 9223372036854775808) (hm : 1 ≤ m) : Fn Tryz.prog 33 #[.int .i64 x, .int .i64 m] [] (fun v l => v = .int .i64 (aroundI x m) ∧ l = []) := by
  refine Fn.intro (vs := [.int .i64 x, .int .i64 m]) Tryz.func33 rfl Tryz.ntmps33 rfl ?_
  refine Wp.seq ?_
  refine Wp.region ?_
  refine s_as rfl rfl ?_
  refine WpL.nil ?_
  refine Wp.seq ?_
  refine Wp.seq ?_
  refine Wp.region ?_
  refine s_mv rfl rfl ?_
  refine s_lt rfl rfl rfl ?_
  refine WpL.nil ?_
  refine Wp.condD rfl (fun h0 => ?_) (fun h0 => ?_)
  · refine Wp.region ?_
    refine s_mv rfl rfl ?_
    first | refine s_add rfl rfl rfl (w_i64 (by omega) (by omega)) ?_ | refine s_addw rfl rfl rfl ?_
    first | refine s_neg rfl rfl (w_i64 (by omega) (by omega)) ?_ | refine s_negw rfl rfl ?_
    refine s_as rfl rfl ?_
    refine WpL.nil ?_
    refine Wp.seq ?_
    refine Wp.region ?_
    refine s_mv rfl rfl ?_
    refine s_mv rfl rfl ?_
    refine s_rem rfl rfl rfl (by omega) (by omega) ?_
    refine s_as rfl rfl ?_
    refine WpL.nil ?_
    refine Wp.ret ?_
    apply RetQ.mk
    · exact (Res.one rfl rfl)
    · exact ⟨by rw [aroundI, if_pos h0], rfl⟩
    · first | exact Ent.refl _ | exact Ent.nil _ | exact Take.ent' (by repeat' constructor) | (repeat (first | exact Ent.refl _ | refine Ent.drop ?_))
  · refine Wp.skip ?_
    refine Wp.seq ?_
    refine Wp.region ?_
    refine s_mv rfl rfl ?_
    refine s_mv rfl rfl ?_
    refine s_rem rfl rfl rfl (by omega) (by omega) ?_
    refine s_as rfl rfl ?_
    refine WpL.nil ?_
    refine Wp.ret ?_
    apply RetQ.mk
    · exact (Res.one rfl rfl)
    · exact ⟨by rw [aroundI, if_neg h0], rfl⟩
    · first | exact Ent.refl _ | exact Ent.nil _ | exact Take.ent' (by repeat' constructor) | (repeat (first | exact Ent.refl _ | refine Ent.drop ?_))


end Go.Proofs.YtggamdlpiejbiaaGreat
namespace Go.Proofs.YtggamdlpiejbiaaGreat
open Go.RowKit Go.Shelf



theorem endR_last {K W H : Int} {s : RS} : (endR K W H s).1.last ≠ 0 := by
  unfold endR
  split
  · assumption
  · split
    · simp [wrongR]
    · assumption
theorem RInv.zero {ch : Int} {k m : Nat} {s : RS} (h : RInv ch k m s) : RInv ch k 0 s := ⟨h.1, by have := h.2.1; omega, h.2.2⟩
end Go.Proofs.YtggamdlpiejbiaaGreat
namespace Go.Proofs.YtggamdlpiejbiaaGreat
open Go.RowKit Go.Shelf


def digs (n : Nat) : List Int := if n < 10 then [48 + (n : Int)] else digs (n / 10) ++ [48 + ((n % 10 : Nat) : Int)]
termination_by n
decreasing_by omega
section
variable {K W H M : Int}
end


theorem pack_one {x : Int} (h : smp x) : packS [x] = (281474976710656 + x, 0) := by
  unfold smp at h
  rw [packS_ok [x] (.inl rfl) (by intro n hn; simp at hn; subst hn; exact h)]
  exact Prod.ext (by simp [packF]; omega) rfl
theorem pack_three {x y z : Int} (h : smp x) (h2 : smp y) (h3 : smp z) : packS [x, y, z] = (((x * 65536 + y) * 65536 + z) + 3 * 281474976710656, 0) := by
  rw [packS_ok [x, y, z] (.inr rfl) (by intro n hn; simp at hn; rcases hn with rfl | rfl | rfl <;> assumption)]
  exact Prod.ext (by simp [packF]) rfl
theorem unpack_pack {xs : List Int} (h : xs.length = 1 ∨ xs.length = 3) (hs : ∀ n ∈ xs, smp n) : unpackS (packS xs).1 = xs := by
  match xs, h with
  | [x], _ =>
    have hx := hs x (by simp)
    rw [pack_one hx]
    unfold smp at hx
    unfold unpackS
    rw [if_neg (by simp only; omega), if_pos (by simp only; omega)]
    simp only
    congr 1
    omega
  | [x, y, z], _ =>
    have hx := hs x (by simp)
    have hy := hs y (by simp)
    have hz := hs z (by simp)
    rw [pack_three hx hy hz]
    unfold smp at hx hy hz
    unfold unpackS
    rw [if_pos (by simp only; omega)]
    simp only [List.cons.injEq, and_true]
    refine ⟨by omega, by omega, by omega⟩
  | [_, _], h => simp at h
  | _ :: _ :: _ :: _ :: _, h => simp at h
/-- A pixel of a format. -/
def Can (ch M p : Int) : Prop := ((unpackS p).length : Int) = ch ∧ (packS (unpackS p)).1 = p ∧ ∀ x ∈ unpackS p, 0 ≤ x ∧ x ≤ M
section
variable {K W H M : Int}
def joinB : List Int → List Int
  | [] => []
  | [x] => digs x.toNat
  | x :: y :: xs => digs x.toNat ++ 32 :: joinB (y :: xs)
def nlB (K W : Int) (i : Nat) : Bool := decide (K > 1 ∨ (i : Int) % W = W - 1 ∨ (i : Int) % W % 70 = 69)
def pxB (K W : Int) (i : Nat) (p : Int) : List Int := joinB (unpackS p) ++ if nlB K W i = true then [10] else []
def wrL (K W : Int) : Nat → List Int → List Int
  | _, [] => []
  | i, p :: l => pxB K W i p ++ wrL K W (i + 1) l
theorem wrL_snoc (p : Int) : ∀ (l : List Int) (i : Nat), wrL K W i (l ++ [p]) = wrL K W i l ++ pxB K W (i + l.length) p
  | [], i => by simp [wrL]
  | q :: l, i => by simp only [List.cons_append, wrL, wrL_snoc p l (i + 1), List.length_cons, List.append_assoc]; congr 3; omega
end

end Go.Proofs.YtggamdlpiejbiaaGreat
namespace Go.Proofs.YtggamdlpiejbiaaGreat
open Go.RowKit Go.Shelf


theorem bsOf_app (a b : ByteArray) : bsOf (a ++ b) = bsOf a ++ bsOf b := by simp [bsOf, ByteArray.data_append]
theorem bsOf_nums {xs : List Int} (h : ∀ x ∈ xs, 0 ≤ x ∧ x ≤ 255) : bsOf (strOfNums xs) = xs := by
  unfold bsOf strOfNums
  simp only [List.map_map]
  conv => rhs; rw [← List.map_id xs]
  refine List.map_congr_left fun x hx => ?_
  have := h x hx
  simp only [Function.comp, UInt8.toNat_ofNat', id]
  omega
theorem size_nums (xs : List Int) : (strOfNums xs).size = xs.length := by simp [strOfNums, ByteArray.size]
theorem digs_len (n : Nat) : (digs n).length ≤ n + 1 := by
  induction n using Nat.strongRecOn with
  | _ n ih =>
    rw [digs]
    split
    · simp
    · have := ih (n / 10) (by omega)
      simp only [List.length_append, List.length_cons, List.length_nil]
      omega
theorem digs_rec {n : Int} (h : 10 ≤ n) : digs n.toNat = digs (n / 10).toNat ++ [48 + n % 10] := by
  rw [digs, if_neg (by omega)]
  congr 1
  · congr 1; omega
  · congr 1; omega
theorem can_of_fit {p ch M : Int} (h0 : 0 ≤ p) (h1 : p < 18446744073709551616) (h : FitP p ch M) : Can ch M p := by
  obtain ⟨hf, hl, hs⟩ := h
  unfold FmtP at hf
  refine ⟨hl, ?_, fun x hx => ⟨?_, hs x hx⟩⟩
  · unfold unpackS at hl ⊢
    split
    · rename_i h3
      rw [pack_three (by unfold smp; omega) (by unfold smp; omega) (by unfold smp; omega)]
      simp only
      omega
    · rename_i h3
      split
      · rename_i h4
        rw [pack_one (by unfold smp; omega)]
        simp only
        omega
      · rename_i h4
        rw [if_neg h3, if_neg h4] at hl
        simp at hl
        omega
  · unfold unpackS at hx
    split at hx
    · simp at hx; omega
    · split at hx
      · simp at hx; omega
      · simp at hx

theorem Decimal_spec (n : Int) (h0 : 0 ≤ n) (h1 : n ≤ 65535) : Fn Tryz.prog 118 #[.int .i64 n] [] (fun v l => ∃ s, v = .string s ∧ bsOf s = digs n.toNat ∧ l = []) := by
  refine Fn.intro (vs := [.int .i64 n]) Tryz.func118 rfl Tryz.ntmps118 rfl ?_
  refine Wp.seq ?_
  refine Wp.region ?_
  refine s_as rfl rfl ?_
  refine WpL.nil ?_
  refine Wp.seq ?_
  refine Wp.region ?_
  refine s_mv rfl rfl ?_
  refine s_rem rfl rfl rfl (by omega) (by omega) ?_
  refine s_as rfl rfl ?_
  refine WpL.nil ?_
  refine Wp.seq ?_
  refine Wp.seq ?_
  refine Wp.region ?_
  refine s_mv rfl rfl ?_
  refine s_lt rfl rfl rfl ?_
  refine WpL.nil ?_
  refine Wp.condDF rfl (by omega) ?_
  refine Wp.skip ?_
  refine Wp.seq ?_
  refine Wp.region ?_
  refine s_mv rfl rfl ?_
  first | refine s_add rfl rfl rfl (w_i64 (by omega) (by omega)) ?_ | refine s_addw rfl rfl rfl ?_
  first | refine s_cvi rfl Tryz.underlying3 rfl (w_u8 (by omega) (by omega)) ?_ | refine s_cviw rfl Tryz.underlying3 rfl ?_
  refine s_bs1 rfl rfl rfl rfl ?_
  intro g1
  rw [show ([.int .u8 (48 + n % 10)] : List Value) = u8s [48 + n % 10] from rfl]
  refine s_b2s (xs := [48 + n % 10]) rfl Tryz.underlying22 Tryz.underlying5 Tryz.underlying9 rfl rfl ?_
  refine s_as rfl rfl ?_
  refine WpL.nil ?_
  refine Wp.seq ?_
  refine Wp.seq ?_
  refine Wp.region ?_
  refine s_mv rfl rfl ?_
  refine s_gt rfl rfl rfl ?_
  refine s_mv rfl rfl ?_
  refine WpL.knowT (dj := 18) rfl (decide_eq_true (by omega)) ?_
  refine WpL.gon rfl rfl ?_
  refine s_mv rfl rfl ?_
  refine WpL.gon rfl rfl ?_
  refine s_lt rfl rfl rfl ?_
  refine s_pickT rfl rfl rfl ?_
  refine WpL.nil ?_
  refine Wp.condD rfl (fun h1 => ?_) (fun h1 => ?_)
  · refine Wp.seq ?_
    refine Wp.seq ?_
    refine Wp.region ?_
    refine s_mv rfl rfl ?_
    refine s_lt rfl rfl rfl ?_
    refine WpL.nil ?_
    refine Wp.condDF rfl (by omega) ?_
    refine Wp.skip ?_
    refine Wp.seq ?_
    refine Wp.region ?_
    refine s_mv rfl rfl ?_
    refine s_as rfl rfl ?_
    refine WpL.nil ?_
    refine Wp.ret ?_
    apply RetQ.mk
    · exact (Res.one rfl rfl)
    · exact ⟨_, rfl, by rw [bsOf_nums (by intro x hx; simp at hx; omega), digs, if_pos (by omega)]; congr 1; omega, rfl⟩
    · first | exact Ent.refl _ | exact Ent.nil _ | exact Take.ent' (by repeat' constructor) | (repeat (first | exact Ent.refl _ | refine Ent.drop ?_))
  · refine Wp.skip ?_
    refine Wp.seq ?_
    refine Wp.region ?_
    refine s_mv rfl rfl ?_
    refine s_quo rfl rfl rfl (by omega) (by omega) (w_i64 (by omega) (by omega)) ?_
    refine s_callf rfl rfl (by repeat' constructor) (Decimal_spec (n / 10) (by omega) (by omega)) ?_
    rintro _ _ ⟨s1, rfl, hs1, rfl⟩
    simp only [napp]
    have hsz1 : s1.size ≤ 65536 := by rw [← bsOf_len, hs1]; have := digs_len (n / 10).toNat; omega
    refine s_mv rfl rfl ?_
    refine s_cat rfl rfl rfl (by rw [size_nums]; simp; omega) ?_
    refine s_as rfl rfl ?_
    refine WpL.nil ?_
    refine Wp.ret ?_
    apply RetQ.mk
    · exact (Res.one rfl rfl)
    · exact ⟨_, rfl, by rw [bsOf_app, hs1, bsOf_nums (by intro x hx; simp at hx; omega), digs_rec (n := n) (by omega)], rfl⟩
    · first | exact Ent.refl _ | exact Ent.nil _ | exact Take.ent' (by repeat' constructor) | (repeat (first | exact Ent.refl _ | refine Ent.drop ?_))
termination_by n.toNat
decreasing_by omega


theorem rFormat_spec (K W H M : Int) (hK : 1 ≤ K) (hK6 : K ≤ 6) : Fn Tryz.prog 57 #[.agg #[.int .i64 K, .int .i64 W, .int .i64 H, .int .i64 M]] [] (fun v l => v = .agg #[.int .i64 (chK K), .int .i64 M] ∧ l = []) := by
  refine Fn.intro (vs := [.agg #[.int .i64 K, .int .i64 W, .int .i64 H, .int .i64 M]]) Tryz.func57 rfl Tryz.ntmps57 rfl ?_
  refine Wp.seq ?_
  refine Wp.region ?_
  refine s_box rfl rfl rfl ?_
  intro g1
  refine s_al rfl ?_
  intro g2
  refine WpL.nil ?_
  refine Wp.seq ?_
  refine Wp.seq ?_
  refine Wp.region ?_
  refine s_fa (o2 := 0) rfl rfl rfl ?_
  refine s_ld rfl rfl (by rfl) ?_
  refine s_eq rfl rfl rfl ?_
  refine s_mv rfl rfl ?_
  refine WpL.grd rfl rfl rfl (fun hg1 => ?_) (fun hg1 => ?_)
  · have hg1 := of_decide_eq_false hg1
    refine s_fa (o2 := 0) rfl rfl rfl ?_
    refine WpL.gon rfl rfl ?_
    refine s_ld rfl rfl (by rfl) ?_
    refine WpL.gon rfl rfl ?_
    refine s_eq rfl rfl rfl ?_
    refine s_pickF rfl rfl rfl ?_
    refine WpL.nil ?_
    refine Wp.condD rfl (fun h0 => ?_) (fun h0 => ?_)
    · refine Wp.seq ?_
      refine Wp.region ?_
      refine s_fa (o2 := 3) rfl rfl rfl ?_
      refine s_ld rfl rfl (by rfl) ?_
      refine s_bd rfl rfl ?_
      refine s_sta rfl rfl rfl (by rfl) rfl ?_
      refine WpL.nil ?_
      refine Wp.ret ?_
      apply RetQ.mk
      · exact (RetQ.cell rfl rfl (by rfl))
      · first | exact ⟨by rw [show chK K = 3 from if_pos (by omega)], rfl⟩ | exact ⟨by rw [show chK K = 1 from if_neg (by omega)], rfl⟩
      · first | exact Ent.refl _ | exact Ent.nil _ | exact Take.ent' (by repeat' constructor) | (repeat (first | exact Ent.refl _ | refine Ent.drop ?_))
    · refine Wp.skip ?_
      refine Wp.seq ?_
      refine Wp.region ?_
      refine s_fa (o2 := 3) rfl rfl rfl ?_
      refine s_ld rfl rfl (by rfl) ?_
      refine s_bd rfl rfl ?_
      refine s_sta rfl rfl rfl (by rfl) rfl ?_
      refine WpL.nil ?_
      refine Wp.ret ?_
      apply RetQ.mk
      · exact (RetQ.cell rfl rfl (by rfl))
      · first | exact ⟨by rw [show chK K = 3 from if_pos (by omega)], rfl⟩ | exact ⟨by rw [show chK K = 1 from if_neg (by omega)], rfl⟩
      · first | exact Ent.refl _ | exact Ent.nil _ | exact Take.ent' (by repeat' constructor) | (repeat (first | exact Ent.refl _ | refine Ent.drop ?_))
  · have hg1 := of_decide_eq_true hg1
    refine WpL.goff rfl rfl rfl (by decide) ?_
    refine WpL.goff rfl rfl rfl (by decide) ?_
    refine s_pickT rfl rfl rfl ?_
    refine WpL.nil ?_
    refine Wp.condT rfl ?_
    refine Wp.seq ?_
    refine Wp.region ?_
    refine s_fa (o2 := 3) rfl rfl rfl ?_
    refine s_ld rfl rfl (by rfl) ?_
    refine s_bd rfl rfl ?_
    refine s_sta rfl rfl rfl (by rfl) rfl ?_
    refine WpL.nil ?_
    refine Wp.ret ?_
    apply RetQ.mk
    · exact (RetQ.cell rfl rfl (by rfl))
    · first | exact ⟨by rw [show chK K = 3 from if_pos (by omega)], rfl⟩ | exact ⟨by rw [show chK K = 1 from if_neg (by omega)], rfl⟩
    · first | exact Ent.refl _ | exact Ent.nil _ | exact Take.ent' (by repeat' constructor) | (repeat (first | exact Ent.refl _ | refine Ent.drop ?_))

theorem pack_bd {xs : List Int} (h : xs.length = 1 ∨ xs.length = 3) (hs : ∀ n ∈ xs, smp n) : 0 ≤ (packS xs).1 ∧ (packS xs).1 < 18446744073709551616 := by
  have := packF_all (l := xs) (by omega) hs
  rw [packS_ok xs h hs]
  simp only
  omega
end Go.Proofs.YtggamdlpiejbiaaGreat
namespace Go.Proofs.YtggamdlpiejbiaaGreat
open Go.RowKit Go.Shelf


/-- A number's digits, the lowest first. -/
def lowD (b n : Nat) : List Int := if _h : n < b ∨ b < 2 then [((n % b : Nat) : Int)] else ((n % b : Nat) : Int) :: lowD b (n / b)
termination_by n
decreasing_by exact Nat.div_lt_self (by omega) (by omega)
theorem lowD_lt {b n : Nat} (h : n < b) : lowD b n = [((n % b : Nat) : Int)] := by rw [lowD, dif_pos (.inl h)]
theorem lowD_ge {b n : Nat} (h : b ≤ n) (hb : 2 ≤ b) : lowD b n = ((n % b : Nat) : Int) :: lowD b (n / b) := by rw [lowD, dif_neg (by omega)]
theorem lowD_head (b n : Nat) : ∃ t, lowD b n = ((n % b : Nat) : Int) :: t := by
  rw [lowD]
  split
  · exact ⟨_, rfl⟩
  · exact ⟨_, rfl⟩
theorem lowD_bd {b : Nat} (hb : 0 < b) (n : Nat) : ∀ x ∈ lowD b n, 0 ≤ x ∧ x < b := by
  induction n using Nat.strongRecOn with
  | _ n ih =>
    intro x hx
    have hm := Nat.mod_lt n hb
    rw [lowD] at hx
    split at hx
    · simp only [List.mem_singleton] at hx; subst hx; omega
    · rcases List.mem_cons.1 hx with rfl | hx
      · omega
      · exact ih (n / b) (Nat.div_lt_self (by omega) (by omega)) x hx
theorem lowD_digs (n : Nat) : digs n = ((lowD 10 n).map fun x => 48 + x).reverse := by
  induction n using Nat.strongRecOn with
  | _ n ih =>
    by_cases h : n < 10
    · rw [lowD_lt h, digs, if_pos (by omega)]
      simp; omega
    · rw [lowD_ge (by omega) (by omega), digs, if_neg (by omega), ih (n / 10) (by omega)]
      simp
theorem lowD_len20 {b n : Nat} (hb : 10 ≤ b) (k : Nat) (h : n < 10 ^ (k + 1)) : (lowD b n).length ≤ k + 1 := by
  induction k generalizing n with
  | zero =>
    rw [lowD_lt (by omega)]; simp
  | succ k ih =>
    by_cases h2 : n < b
    · rw [lowD_lt h2]; simp
    · rw [lowD_ge (by omega) (by omega)]
      have : n / b < 10 ^ (k + 1) := by
        apply Nat.div_lt_of_lt_mul
        calc n < 10 ^ (k + 1 + 1) := h
          _ = 10 * 10 ^ (k + 1) := by rw [Nat.pow_succ]; omega
          _ ≤ b * 10 ^ (k + 1) := Nat.mul_le_mul_right _ hb
      have := ih this
      simp; omega
theorem set_map {α : Type} (f : Int → α) (xs : List Int) (k : Nat) (x : Int) : (xs.map f).set k (f x) = (xs.set k x).map f := (List.map_set ..).symm
theorem u8s_set (xs : List Int) (k : Nat) (x : Int) : (u8s xs).set k (.int .u8 x) = u8s (xs.set k x) := set_map _ xs k x
theorem digs_bd (n : Nat) : ∀ x ∈ digs n, 48 ≤ x ∧ x ≤ 57 := by
  intro x hx
  rw [lowD_digs, List.mem_reverse, List.mem_map] at hx
  obtain ⟨y, hy, rfl⟩ := hx
  have := lowD_bd (b := 10) (by omega) n y hy
  omega

end Go.Proofs.YtggamdlpiejbiaaGreat
namespace Go.Proofs.YtggamdlpiejbiaaGreat
open Go.RowKit Go.Shelf

theorem take_all {xs : List Int} {k : Nat} {mx : Int} (h : ∀ x ∈ xs.take k, x ≤ mx) (hlt : k < xs.length) (hx : xs[k] ≤ mx) : ∀ x ∈ xs.take (k + 1), x ≤ mx := by
  intro x hxm
  rw [take_snoc' xs hlt] at hxm
  rcases List.mem_append.1 hxm with hxm | hxm
  · exact h x hxm
  · have := List.mem_singleton.1 hxm; subst this; exact hx

theorem rFits_spec (p ch mx : Int) (h0 : 0 ≤ p) (h1 : p < 18446744073709551616) : Fn Tryz.prog 98 #[.int .u64 p, .agg #[.int .i64 ch, .int .i64 mx]] [] (fun v l => v = .bool (decide (FitP p ch mx)) ∧ l = []) := by
  have hul := unpackS_len p
  refine Fn.intro (vs := [.int .u64 p, .agg #[.int .i64 ch, .int .i64 mx]]) Tryz.func98 rfl Tryz.ntmps98 rfl ?_
  refine Wp.seq ?_
  refine Wp.region ?_
  refine s_box rfl rfl rfl ?_
  intro g1
  refine s_as rfl rfl ?_
  refine WpL.nil ?_
  refine Wp.seq ?_
  refine Wp.region ?_
  refine s_mv rfl rfl ?_
  refine s_callf rfl rfl (by repeat' constructor) (rUnpack_spec _ (by omega) (by omega)) ?_
  rintro _ _ ⟨A1, a1, c1, rfl, rfl, hA1, hn1⟩
  simp only [napp]
  refine s_as rfl rfl ?_
  refine WpL.nil ?_
  refine Wp.seq ?_
  refine Wp.seq ?_
  refine Wp.region ?_
  refine s_as rfl rfl ?_
  refine WpL.nil ?_
  refine Wp.block ?_
  refine Wp.loopD (σ := Nat) (fun k => k ≤ (unpackS p).length ∧ ∀ x ∈ (unpackS p).take k, x ≤ mx) [4, 6, 10, 11, 12, 13, 14, 15, 16, 17, 18, 19, 20, 21, 22] (fun k => [(6, .int .i64 (k : Int))]) (fun k => [A1, blk g1 [.int .i64 ch, .int .i64 mx] 48]) (fun k => (unpackS p).length - k) 0 ?_ (by repeat (first | exact FrLe.nil | refine FrLe.cons rfl ?_)) ?_ ?_
  · exact ⟨Nat.zero_le _, by simp⟩
  · first | exact Ent.refl _ | exact Ent.nil _ | exact Take.ent' (by repeat' constructor) | (repeat (first | exact Ent.refl _ | refine Ent.drop ?_))
  · rintro k ⟨hk, hall⟩
    refine Wp.seq ?_
    refine Wp.seq ?_
    refine Wp.region ?_
    refine s_mv rfl rfl ?_
    refine s_mv rfl rfl ?_
    refine s_lenl rfl rfl ?_
    refine s_lt rfl rfl rfl ?_
    refine WpL.nil ?_
    refine Wp.condD rfl (fun h1 => ?_) (fun h1 => ?_)
    · have hlt : k < (unpackS p).length := by omega
      refine Wp.skip ?_
      refine Wp.seq ?_
      refine Wp.block ?_
      refine Wp.seq ?_
      apply Wp.draw mixed [⟨16, _, []⟩, ⟨17, _, []⟩, ⟨18, _, [0, 1]⟩, ⟨19, _, [2]⟩, ⟨20, _, []⟩, ⟨21, _, [4]⟩, ⟨22, _, [3, 5]⟩] rfl
      · refine AllObs.mk ?_ ?_
        · refine s_mv rfl rfl ?_
          exact obN rfl
        refine AllObs.mk ?_ ?_
        · refine s_mv rfl rfl ?_
          exact obN rfl
        refine AllObs.mk ?_ ?_
        · refine s_ixa k rfl rfl rfl hA1 (by first | exact Take.ent' (by repeat' constructor) | (repeat (first | exact Ent.refl _ | refine Ent.drop ?_))) rfl (by omega) (by rw [ints_len]; omega) ?_
          exact obN rfl
        refine AllObs.mk ?_ ?_
        · refine s_ldx rfl rfl hA1 (by first | exact Take.ent' (by repeat' constructor) | (repeat (first | exact Ent.refl _ | refine Ent.drop ?_))) (ints_at (unpackS p) hlt) ?_
          exact obN rfl
        refine AllObs.mk ?_ ?_
        · refine s_fa (o2 := 1) rfl rfl rfl ?_
          exact obN rfl
        refine AllObs.mk ?_ ?_
        · refine s_ld rfl rfl (by rfl) ?_
          exact obN rfl
        refine AllObs.mk ?_ ?_
        · refine s_gt rfl rfl rfl ?_
          exact obN rfl
        exact AllObs.nil
      · refine Wp.condD rfl (fun h2 => ?_) (fun h2 => ?_)
        · refine Wp.seq ?_
          refine Wp.region ?_
          refine s_as rfl rfl ?_
          refine WpL.nil ?_
          refine Wp.ret ?_
          skip
          apply RetQ.mk
          · exact (Res.one rfl rfl)
          · exact ⟨congrArg Value.bool (df (fun hf => by have := hf.2.2 _ (List.getElem_mem hlt); omega)), rfl⟩
          · first | exact Ent.refl _ | exact Ent.nil _ | exact Take.ent' (by repeat' constructor) | (repeat (first | exact Ent.refl _ | refine Ent.drop ?_))
        · refine Wp.skip ?_
          refine Wp.region ?_
          refine s_mv rfl rfl ?_
          first | refine s_add rfl rfl rfl (w_i64 (by omega) (by omega)) ?_ | refine s_addw rfl rfl rfl ?_
          refine s_as rfl rfl ?_
          refine WpL.nil ?_
          refine loopD.next (k + 1) ?_ ?_ (by first | ((repeat (first | exact Top.refl | refine Top.push rfl ?_ | refine Top.drop rfl ?_)); done) | exact Top.le (by repeat (first | exact FrLe.nil | refine FrLe.cons rfl ?_))) (by repeat (first | exact FrLe.nil | refine FrLe.cons rfl ?_)) ?_
          · exact ⟨by omega, take_all hall hlt (by omega)⟩
          · omega
          · first | exact Ent.refl _ | exact Ent.nil _ | exact Take.ent' (by repeat' constructor) | (repeat (first | exact Ent.refl _ | refine Ent.drop ?_))
    · refine Wp.exit ?_
      refine Wp.seq ?_
      refine Wp.region ?_
      refine s_lda (vs := [_, _]) rfl rfl rfl (by rfl) ?_
      refine s_callf rfl rfl (by repeat' constructor) (rFormat1_spec _ _) ?_
      rintro _ _ ⟨rfl, rfl⟩
      simp only [napp]
      refine s_as rfl rfl ?_
      refine WpL.nil ?_
      refine Wp.seq ?_
      refine Wp.region ?_
      refine s_mv rfl rfl ?_
      refine s_mv rfl rfl ?_
      refine WpL.grd rfl rfl rfl (fun hg1 => ?_) (fun hg1 => ?_)
      · have hg1 := of_decide_eq_true hg1
        refine s_mv rfl rfl ?_
        refine WpL.gon rfl rfl ?_
        refine s_lenl rfl rfl ?_
        refine WpL.gon rfl rfl ?_
        refine s_fa (o2 := 0) rfl rfl rfl ?_
        refine WpL.gon rfl rfl ?_
        refine s_ld rfl rfl (by rfl) ?_
        refine WpL.gon rfl rfl ?_
        refine s_eq rfl rfl rfl ?_
        refine s_pickT rfl rfl rfl ?_
        refine s_as rfl rfl ?_
        refine WpL.nil ?_
        refine Wp.ret ?_
        skip
        apply RetQ.mk
        · exact (Res.one rfl rfl)
        · refine ⟨congrArg Value.bool ?_, rfl⟩
          have hke : k = (unpackS p).length := by omega
          rw [hke, List.take_length] at hall
          first | exact dd ⟨fun h => ⟨by assumption, h, hall⟩, fun h => h.2.1⟩ | exact df (fun hf => absurd hf.1 (by assumption)) | exact dt ⟨by assumption, by assumption, hall⟩
        · first | exact Ent.refl _ | exact Ent.nil _ | exact Take.ent' (by repeat' constructor) | (repeat (first | exact Ent.refl _ | refine Ent.drop ?_))
      · have hg1 := of_decide_eq_false hg1
        refine WpL.goff rfl rfl rfl (by decide) ?_
        refine WpL.goff rfl rfl rfl (by decide) ?_
        refine WpL.goff rfl rfl rfl (by decide) ?_
        refine WpL.goff rfl rfl rfl (by decide) ?_
        refine s_pickF rfl rfl rfl ?_
        refine s_as rfl rfl ?_
        refine WpL.nil ?_
        refine Wp.ret ?_
        skip
        apply RetQ.mk
        · exact (Res.one rfl rfl)
        · refine ⟨congrArg Value.bool ?_, rfl⟩
          have hke : k = (unpackS p).length := by omega
          rw [hke, List.take_length] at hall
          first | exact dd ⟨fun h => ⟨by assumption, h, hall⟩, fun h => h.2.1⟩ | exact df (fun hf => absurd hf.1 (by assumption)) | exact dt ⟨by assumption, by assumption, hall⟩
        · first | exact Ent.refl _ | exact Ent.nil _ | exact Take.ent' (by repeat' constructor) | (repeat (first | exact Ent.refl _ | refine Ent.drop ?_))


theorem chK_or (K : Int) : chK K = 1 ∨ chK K = 3 := by unfold chK; split <;> simp
def WrP (K W H M : Int) (px : List Int) : Prop := PlainH K W H M ∧ (px.length : Int) = W * H ∧ ∀ p ∈ px, FitP p (chK K) M
/-- What stands behind j samples. -/
def pj (xs : List Int) (j : Nat) : List Int := if j = xs.length then joinB xs else (xs.take j).flatMap fun x => digs x.toNat ++ [32]
theorem pj_zero {xs : List Int} : pj xs 0 = [] := by
  unfold pj
  split
  · rename_i h; rw [List.eq_nil_of_length_eq_zero h.symm]; rfl
  · rfl
theorem pj_more {xs : List Int} (_h3 : xs.length = 1 ∨ xs.length = 3) {j : Nat} (hj : j + 1 < xs.length) : pj xs j ++ digs (xs[j]).toNat ++ [32] = pj xs (j + 1) := by
  unfold pj
  rw [if_neg (by omega), if_neg (by omega), take_snoc' xs (by omega), List.flatMap_append]
  simp
theorem pj_end {xs : List Int} (h3 : xs.length = 1 ∨ xs.length = 3) {j : Nat} (hj : j + 1 = xs.length) : pj xs j ++ digs (xs[j]'(by omega)).toNat = pj xs (j + 1) := by
  match xs, h3 with
  | [x], _ =>
    have : j = 0 := by simpa using hj
    subst this
    simp [pj, joinB]
  | [x, y, z], _ =>
    have : j = 2 := by simpa using hj
    subst this
    simp [pj, joinB]
  | [_, _], h => simp at h
  | _ :: _ :: _ :: _ :: _, h => simp at h
theorem pj_all {xs : List Int} : pj xs xs.length = joinB xs := if_pos rfl
theorem wr_take {K W : Int} {px : List Int} {k : Nat} (h : k < px.length) : wrL K W 0 (px.take (k + 1)) = wrL K W 0 (px.take k) ++ (joinB (unpackS px[k]) ++ if nlB K W k = true then [10] else []) := by
  rw [take_snoc' px h, wrL_snoc]
  simp only [pxB, Nat.zero_add, List.length_take, show min k px.length = k by omega]
theorem nl_t {K W : Int} {k : Nat} (h : K > 1 ∨ (k : Int) % W = W - 1 ∨ (k : Int) % W % 70 = 69) {b bs : List Int} (e : bs = b) : b ++ [10] = bs ++ (if nlB K W k = true then [10] else []) := by
  rw [show nlB K W k = true from decide_eq_true h, if_pos rfl, e]
theorem nl_f {K W : Int} {k : Nat} (h1 : ¬ K > 1) (h2 : ¬ (k : Int) % W = W - 1) (h3 : ¬ (k : Int) % W % 70 = 69) {b bs : List Int} (e : bs = b) : b = bs ++ (if nlB K W k = true then [10] else []) := by
  rw [show nlB K W k = false from decide_eq_false (by omega), e]; simp
structure WrX where
  (k : Nat) (s : ByteArray)

set_option maxHeartbeats 4000000 in
theorem rWrite_spec (A0 : HP) (a0 : Option Addr) (c0 : Nat) (px : List Int) (hA : RdsL [A0] a0 (pxs px)) (hr : ∀ p ∈ px, 0 ≤ p ∧ p < 18446744073709551616) (hl : px.length ≤ 300000) (K W H M : Int) : Fn Tryz.prog 69 #[.slice a0 px.length c0, .agg #[.int .i64 K, .int .i64 W, .int .i64 H, .int .i64 M]] [A0] (fun v l => ∃ s e, v = .tuple #[.string s, .int .i64 e] ∧ ((WrP K W H M px ∧ e = 0 ∧ bsOf s = wrL K W 0 px ∧ s.size ≤ px.length * 300000) ∨ (¬ WrP K W H M px ∧ e = 1 ∧ s = ⟨#[]⟩)) ∧ l = [A0]) := by
  refine Fn.intro (vs := [.slice a0 px.length c0, .agg #[.int .i64 K, .int .i64 W, .int .i64 H, .int .i64 M]]) Tryz.func69 rfl Tryz.ntmps69 rfl ?_
  refine Wp.seq ?_
  refine Wp.region ?_
  refine s_box rfl rfl rfl ?_
  intro g1
  refine s_as rfl rfl ?_
  refine s_as rfl rfl ?_
  refine WpL.nil ?_
  refine Wp.seq ?_
  refine Wp.region ?_
  refine s_lda (vs := [_, _, _, _]) rfl rfl rfl (by rfl) ?_
  refine s_callf rfl rfl (by repeat' constructor) (rMay_spec _ _ _ _) ?_
  rintro _ _ ⟨rfl, rfl⟩
  simp only [napp]
  refine s_as rfl rfl ?_
  refine WpL.nil ?_
  refine Wp.seq ?_
  refine Wp.seq ?_
  refine Wp.region ?_
  refine s_mv rfl rfl ?_
  refine s_notD rfl rfl ?_
  refine WpL.nil ?_
  refine Wp.condD rfl (fun hP => ?_) (fun hP => ?_)
  · refine Wp.seq ?_
    refine Wp.region ?_
    refine s_as rfl rfl ?_
    refine s_as rfl rfl ?_
    refine WpL.nil ?_
    refine Wp.ret ?_
    apply RetQ.mk
    · exact (Res.two rfl rfl rfl)
    · exact ⟨_, _, rfl, .inr ⟨fun h => hP h.1, rfl, rfl⟩, rfl⟩
    · first | exact Ent.refl _ | exact Ent.nil _ | exact Take.ent' (by repeat' constructor) | (repeat (first | exact Ent.refl _ | refine Ent.drop ?_))
  · have hP := Classical.not_not.1 hP
    have hP2 := hP.1
    unfold MayH at hP2
    have hK4 := hP.2
    have hWH0 : 0 ≤ W * H := Int.mul_nonneg (by omega) (by omega)
    have hWH : W * H ≤ 4096 * 65536 := Int.mul_le_mul (by omega) (by omega) (by omega) (by omega)
    refine Wp.skip ?_
    refine Wp.seq ?_
    refine Wp.seq ?_
    refine Wp.region ?_
    refine s_mv rfl rfl ?_
    refine s_lenl rfl rfl ?_
    refine s_fa (o2 := 1) rfl rfl rfl ?_
    refine s_ld rfl rfl (by rfl) ?_
    refine s_fa (o2 := 2) rfl rfl rfl ?_
    refine s_ld rfl rfl (by rfl) ?_
    refine s_mul rfl rfl rfl (w_i64 (by omega) (by omega)) ?_
    refine s_ne rfl rfl rfl ?_
    refine WpL.nil ?_
    refine Wp.condD rfl (fun h1 => ?_) (fun h1 => ?_)
    · refine Wp.seq ?_
      refine Wp.region ?_
      refine s_as rfl rfl ?_
      refine s_as rfl rfl ?_
      refine WpL.nil ?_
      refine Wp.ret ?_
      apply RetQ.mk
      · exact (Res.two rfl rfl rfl)
      · exact ⟨_, _, rfl, .inr ⟨fun h => h1 h.2.1, rfl, rfl⟩, rfl⟩
      · first | exact Ent.refl _ | exact Ent.nil _ | exact Take.ent' (by repeat' constructor) | (repeat (first | exact Ent.refl _ | refine Ent.drop ?_))
    · refine Wp.skip ?_
      refine Wp.seq ?_
      refine Wp.region ?_
      refine s_as rfl rfl ?_
      refine WpL.nil ?_
      refine Wp.seq ?_
      refine Wp.seq ?_
      refine Wp.region ?_
      refine s_as rfl rfl ?_
      refine WpL.nil ?_
      refine Wp.block ?_
      refine Wp.loopD (σ := WrX) (fun x => x.k ≤ px.length ∧ bsOf x.s = wrL K W 0 (px.take x.k) ∧ (∀ p ∈ px.take x.k, FitP p (chK K) M) ∧ x.s.size ≤ x.k * 300000) [4, 5, 7, 8, 9, 10, 11, 12, 25, 26, 27, 28, 29, 30, 31, 32, 33, 34, 35, 36, 37, 38, 39, 40, 41, 42, 43, 44, 45, 46, 47, 48, 49, 50, 51, 52, 53, 54, 55, 56, 57, 58, 59, 60, 61, 62, 63, 64, 65, 66, 67, 68, 69, 70, 71, 72, 73, 74, 75, 76, 77, 78, 79, 80, 81, 82, 83, 84, 85] (fun x => [(8, .int .i64 (x.k : Int)), (7, .string x.s)]) (fun x => [blk g1 [.int .i64 K, .int .i64 W, .int .i64 H, .int .i64 M] 113, A0]) (fun x => px.length - x.k) ⟨0, ⟨#[]⟩⟩ ?_ (by repeat (first | exact FrLe.nil | refine FrLe.cons rfl ?_)) ?_ ?_
      · exact ⟨Nat.zero_le _, rfl, by simp, Nat.zero_le _⟩
      · first | exact Ent.refl _ | exact Ent.nil _ | exact Take.ent' (by repeat' constructor) | (repeat (first | exact Ent.refl _ | refine Ent.drop ?_))
      · rintro ⟨k, s⟩ ⟨hk, hbs, hfit, hsz⟩
        dsimp only at hk hbs hfit hsz ⊢
        refine Wp.seq ?_
        refine Wp.seq ?_
        refine Wp.region ?_
        refine s_mv rfl rfl ?_
        refine s_mv rfl rfl ?_
        refine s_lenl rfl rfl ?_
        refine s_lt rfl rfl rfl ?_
        refine WpL.nil ?_
        refine Wp.condD rfl (fun h3 => ?_) (fun h3 => ?_)
        · have hlt : k < px.length := by omega
          have hpb := hr _ (List.getElem_mem hlt)
          refine Wp.skip ?_
          refine Wp.seq ?_
          refine Wp.block ?_
          refine Wp.seq ?_
          apply Wp.draw mixed [⟨31, _, []⟩, ⟨32, _, []⟩, ⟨33, _, [0, 1]⟩, ⟨34, _, [2]⟩, ⟨35, _, []⟩, ⟨36, _, [4]⟩, ⟨37, _, [3, 5]⟩, ⟨9, _, [6, 0, 1, 2, 3, 4, 5]⟩] rfl
          · refine AllObs.mk ?_ ?_
            · refine s_mv rfl rfl ?_
              exact obN rfl
            refine AllObs.mk ?_ ?_
            · refine s_mv rfl rfl ?_
              exact obN rfl
            refine AllObs.mk ?_ ?_
            · refine s_ixa k rfl rfl rfl hA (by first | exact Take.ent' (by repeat' constructor) | (repeat (first | exact Ent.refl _ | refine Ent.drop ?_))) rfl (by omega) (by rw [pxs_len]; omega) ?_
              exact obN rfl
            refine AllObs.mk ?_ ?_
            · refine s_ldx rfl rfl hA (by first | exact Take.ent' (by repeat' constructor) | (repeat (first | exact Ent.refl _ | refine Ent.drop ?_))) (pxs_at px hlt) ?_
              exact obN rfl
            refine AllObs.mk ?_ ?_
            · refine s_lda (vs := [_, _, _, _]) rfl rfl rfl (by rfl) ?_
              exact obN rfl
            refine AllObs.mk ?_ ?_
            · refine s_callf rfl rfl (by repeat' constructor) (rFormat_spec _ _ _ _ (by omega) (by omega)) ?_
              rintro _ _ ⟨rfl, rfl⟩
              simp only [napp]
              exact WpL.nil ⟨rfl, rfl, rfl, by first | exact Ent.refl _ | exact Ent.nil _ | exact Take.ent' (by repeat' constructor) | (repeat (first | exact Ent.refl _ | refine Ent.drop ?_))⟩
            refine AllObs.mk ?_ ?_
            · refine s_callf rfl rfl (by repeat' constructor) (rFits_spec _ _ _ hpb.1 hpb.2) ?_
              rintro _ _ ⟨rfl, rfl⟩
              simp only [napp]
              exact WpL.nil ⟨rfl, rfl, rfl, by first | exact Ent.refl _ | exact Ent.nil _ | exact Take.ent' (by repeat' constructor) | (repeat (first | exact Ent.refl _ | refine Ent.drop ?_))⟩
            refine AllObs.mk ?_ ?_
            · refine s_as rfl rfl ?_
              exact obN rfl
            exact AllObs.nil
          · refine Wp.seq ?_
            refine Wp.seq ?_
            refine Wp.region ?_
            refine s_mv rfl rfl ?_
            refine s_notD rfl rfl ?_
            refine WpL.nil ?_
            refine Wp.condD rfl (fun hpf => ?_) (fun hpf => ?_)
            · refine Wp.seq ?_
              refine Wp.region ?_
              refine s_as rfl rfl ?_
              refine s_as rfl rfl ?_
              refine WpL.nil ?_
              refine Wp.ret ?_
              apply RetQ.mk
              · exact (Res.two rfl rfl rfl)
              · exact ⟨_, _, rfl, .inr ⟨fun h => hpf (h.2.2 _ (List.getElem_mem hlt)), rfl, rfl⟩, rfl⟩
              · first | exact Ent.refl _ | exact Ent.nil _ | exact Take.ent' (by repeat' constructor) | (repeat (first | exact Ent.refl _ | refine Ent.drop ?_))
            · have hpf := Classical.not_not.1 hpf
              have hcan := can_of_fit hpb.1 hpb.2 hpf
              have hchp : (unpackS px[k]).length = 1 ∨ (unpackS px[k]).length = 3 := by have h1 := hcan.1; have h2 := chK_or K; omega
              refine Wp.skip ?_
              refine Wp.seq ?_
              refine Wp.region ?_
              refine s_mv rfl rfl ?_
              refine s_mv rfl rfl ?_
              refine s_ixa k rfl rfl rfl hA (by first | exact Take.ent' (by repeat' constructor) | (repeat (first | exact Ent.refl _ | refine Ent.drop ?_))) rfl (by omega) (by rw [pxs_len]; omega) ?_
              refine s_ldx rfl rfl hA (by first | exact Take.ent' (by repeat' constructor) | (repeat (first | exact Ent.refl _ | refine Ent.drop ?_))) (pxs_at px hlt) ?_
              refine s_callf rfl rfl (by repeat' constructor) (rUnpack_spec _ hpb.1 hpb.2) ?_
              rintro _ _ ⟨A1, a1, c1, rfl, rfl, hA1, hn1⟩
              simp only [napp]
              refine s_as rfl rfl ?_
              refine WpL.nil ?_
              refine Wp.seq ?_
              refine Wp.seq ?_
              refine Wp.region ?_
              refine s_as rfl rfl ?_
              refine WpL.nil ?_
              refine Wp.block ?_
              refine Wp.loopD (σ := WrX) (fun y => y.k ≤ (unpackS px[k]).length ∧ bsOf y.s = wrL K W 0 (px.take k) ++ pj (unpackS px[k]) y.k ∧ y.s.size ≤ k * 300000 + y.k * 70000) [7, 11, 45, 46, 47, 48, 49, 50, 51, 52, 53, 54, 55, 56, 57, 58, 59, 60, 61, 62, 63, 64] (fun y => [(11, .int .i64 (y.k : Int)), (7, .string y.s)]) (fun y => [A1, blk g1 [.int .i64 K, .int .i64 W, .int .i64 H, .int .i64 M] 113, A0]) (fun y => (unpackS px[k]).length - y.k) ⟨0, s⟩ ?_ (by repeat (first | exact FrLe.nil | refine FrLe.cons rfl ?_)) ?_ ?_
              · exact ⟨Nat.zero_le _, by simp only; rw [pj_zero, List.append_nil]; exact hbs, by rw [Nat.zero_mul, Nat.add_zero]; exact hsz⟩
              · first | exact Ent.refl _ | exact Ent.nil _ | exact Take.ent' (by repeat' constructor) | (repeat (first | exact Ent.refl _ | refine Ent.drop ?_))
              · rintro ⟨j, s2⟩ ⟨hj, hjb, hjz⟩
                dsimp only at hj hjb hjz ⊢
                refine Wp.seq ?_
                refine Wp.seq ?_
                refine Wp.region ?_
                refine s_mv rfl rfl ?_
                refine s_mv rfl rfl ?_
                refine s_lenl rfl rfl ?_
                refine s_lt rfl rfl rfl ?_
                refine WpL.nil ?_
                refine Wp.condD rfl (fun h6 => ?_) (fun h6 => ?_)
                · have hlj : j < (unpackS px[k]).length := by omega
                  have hsm := hcan.2.2 _ (List.getElem_mem hlj)
                  refine Wp.skip ?_
                  refine Wp.seq ?_
                  refine Wp.block ?_
                  refine Wp.seq ?_
                  refine Wp.region ?_
                  refine s_mv rfl rfl ?_
                  refine s_mv rfl rfl ?_
                  refine s_mv rfl rfl ?_
                  refine s_ixa j rfl rfl rfl hA1 (by first | exact Take.ent' (by repeat' constructor) | (repeat (first | exact Ent.refl _ | refine Ent.drop ?_))) rfl (by omega) (by rw [ints_len]; omega) ?_
                  refine s_ldx rfl rfl hA1 (by first | exact Take.ent' (by repeat' constructor) | (repeat (first | exact Ent.refl _ | refine Ent.drop ?_))) (ints_at (unpackS px[k]) hlj) ?_
                  refine s_callf rfl rfl (by repeat' constructor) (Decimal_spec _ hsm.1 (by omega)) ?_
                  rintro _ _ ⟨s1, rfl, hs1, rfl⟩
                  simp only [napp]
                  have hz1 : s1.size ≤ 65536 := by rw [← bsOf_len, hs1]; have := digs_len ((unpackS px[k])[j]).toNat; omega
                  refine s_cat rfl rfl rfl (by omega) ?_
                  refine s_as rfl rfl ?_
                  refine WpL.nil ?_
                  refine Wp.seq ?_
                  refine Wp.region ?_
                  refine s_mv rfl rfl ?_
                  refine s_mv rfl rfl ?_
                  refine s_lenl rfl rfl ?_
                  first | refine s_sub rfl rfl rfl (w_i64 (by omega) (by omega)) ?_ | refine s_subw rfl rfl rfl ?_
                  refine s_lt rfl rfl rfl ?_
                  refine WpL.nil ?_
                  refine Wp.condD rfl (fun h7 => ?_) (fun h7 => ?_)
                  · refine Wp.region ?_
                    refine s_mv rfl rfl ?_
                    refine s_cat rfl rfl rfl (by rw [ByteArray.size_append]; have : (⟨#[32]⟩ : ByteArray).size = 1 := rfl; omega) ?_
                    refine s_as rfl rfl ?_
                    refine WpL.nil ?_
                    refine Wp.region ?_
                    refine s_mv rfl rfl ?_
                    first | refine s_add rfl rfl rfl (w_i64 (by omega) (by omega)) ?_ | refine s_addw rfl rfl rfl ?_
                    refine s_as rfl rfl ?_
                    refine WpL.nil ?_
                    refine loopD.next (⟨j + 1, s2 ++ s1 ++ ⟨#[32]⟩⟩ : WrX) ?_ ?_ (by first | ((repeat (first | exact Top.refl | refine Top.push rfl ?_ | refine Top.drop rfl ?_)); done) | exact Top.le (by repeat (first | exact FrLe.nil | refine FrLe.cons rfl ?_))) (by repeat (first | exact FrLe.nil | refine FrLe.cons rfl ?_)) ?_
                    · refine ⟨by simp only; omega, ?_, ?_⟩
                      · simp only
                        rw [bsOf_app, bsOf_app, hjb, hs1, ← pj_more hchp (by omega), show bsOf ⟨#[32]⟩ = [32] from rfl]
                        simp only [List.append_assoc]
                      · simp only [ByteArray.size_append]; have : (⟨#[32]⟩ : ByteArray).size = 1 := rfl; omega
                    · simp only; omega
                    · first | exact Ent.refl _ | exact Ent.nil _ | exact Take.ent' (by repeat' constructor) | (repeat (first | exact Ent.refl _ | refine Ent.drop ?_))
                  · refine Wp.skip ?_
                    refine Wp.region ?_
                    refine s_mv rfl rfl ?_
                    first | refine s_add rfl rfl rfl (w_i64 (by omega) (by omega)) ?_ | refine s_addw rfl rfl rfl ?_
                    refine s_as rfl rfl ?_
                    refine WpL.nil ?_
                    refine loopD.next (⟨j + 1, s2 ++ s1⟩ : WrX) ?_ ?_ (by first | ((repeat (first | exact Top.refl | refine Top.push rfl ?_ | refine Top.drop rfl ?_)); done) | exact Top.le (by repeat (first | exact FrLe.nil | refine FrLe.cons rfl ?_))) (by repeat (first | exact FrLe.nil | refine FrLe.cons rfl ?_)) ?_
                    · refine ⟨by simp only; omega, ?_, ?_⟩
                      · simp only
                        rw [bsOf_app, hjb, hs1, ← pj_end hchp (by omega)]
                        simp only [List.append_assoc]
                      · simp only [ByteArray.size_append]; omega
                    · simp only; omega
                    · first | exact Ent.refl _ | exact Ent.nil _ | exact Take.ent' (by repeat' constructor) | (repeat (first | exact Ent.refl _ | refine Ent.drop ?_))
                · have hje : j = (unpackS px[k]).length := by omega
                  have hjs : pj (unpackS px[k]) j = joinB (unpackS px[k]) := by rw [hje, pj_all]
                  rw [hjs] at hjb
                  have hm0 := Int.emod_nonneg (k : Int) (show W ≠ 0 by omega)
                  have hm1 := Int.emod_lt_of_pos (k : Int) (show 0 < W by omega)
                  refine Wp.exit ?_
                  refine Wp.seq ?_
                  refine Wp.region ?_
                  refine s_mv rfl rfl ?_
                  refine s_fa (o2 := 1) rfl rfl rfl ?_
                  refine s_ld rfl rfl (by rfl) ?_
                  refine s_rem rfl rfl rfl (by omega) (by omega) ?_
                  refine s_as rfl rfl ?_
                  refine WpL.nil ?_
                  refine Wp.seq ?_
                  refine Wp.region ?_
                  refine s_fa (o2 := 0) rfl rfl rfl ?_
                  refine s_ld rfl rfl (by rfl) ?_
                  refine s_gt rfl rfl rfl ?_
                  refine s_mv rfl rfl ?_
                  refine WpL.grd rfl rfl rfl (fun hg1 => ?_) (fun hg1 => ?_)
                  · have hg1 := of_decide_eq_false hg1
                    refine s_mv rfl rfl ?_
                    refine WpL.gon rfl rfl ?_
                    refine s_fa (o2 := 1) rfl rfl rfl ?_
                    refine WpL.gon rfl rfl ?_
                    refine s_ld rfl rfl (by rfl) ?_
                    refine WpL.gon rfl rfl ?_
                    first | refine s_sub rfl rfl rfl (w_i64 (by omega) (by omega)) ?_ | refine s_subw rfl rfl rfl ?_
                    refine WpL.gon rfl rfl ?_
                    refine s_eq rfl rfl rfl ?_
                    refine s_pickF rfl rfl rfl ?_
                    refine s_mv rfl rfl ?_
                    refine WpL.grd rfl rfl rfl (fun hg2 => ?_) (fun hg2 => ?_)
                    · have hg2 := of_decide_eq_false hg2
                      refine s_mv rfl rfl ?_
                      refine WpL.gon rfl rfl ?_
                      refine s_rem rfl rfl rfl (by omega) (by omega) ?_
                      refine WpL.gon rfl rfl ?_
                      refine s_eq rfl rfl rfl ?_
                      refine s_pickF rfl rfl rfl ?_
                      refine WpL.nil ?_
                      refine Wp.condD rfl (fun h8 => ?_) (fun h8 => ?_)
                      · refine Wp.region ?_
                        refine s_mv rfl rfl ?_
                        refine s_cat rfl rfl rfl (by have : (⟨#[10]⟩ : ByteArray).size = 1 := rfl; omega) ?_
                        refine s_as rfl rfl ?_
                        refine WpL.nil ?_
                        refine Wp.region ?_
                        refine s_mv rfl rfl ?_
                        first | refine s_add rfl rfl rfl (w_i64 (by omega) (by omega)) ?_ | refine s_addw rfl rfl rfl ?_
                        refine s_as rfl rfl ?_
                        refine WpL.nil ?_
                        refine loopD.next (⟨k + 1, s2 ++ ⟨#[10]⟩⟩ : WrX) ?_ ?_ (by first | ((repeat (first | exact Top.refl | refine Top.push rfl ?_ | refine Top.drop rfl ?_)); done) | exact Top.le (by repeat (first | exact FrLe.nil | refine FrLe.cons rfl ?_))) (by repeat (first | exact FrLe.nil | refine FrLe.cons rfl ?_)) ?_
                        · refine ⟨by simp only; omega, ?_, fun p hp => ?_, ?_⟩
                          · simp only
                            rw [bsOf_app, show bsOf ⟨#[10]⟩ = [10] from rfl, wr_take hlt, ← List.append_assoc]
                            exact nl_t (.inr (.inr (by omega))) hjb.symm
                          · rw [take_snoc' px hlt] at hp
                            rcases List.mem_append.1 hp with hp | hp
                            · exact hfit p hp
                            · have := List.mem_singleton.1 hp; subst this; exact hpf
                          · simp only [ByteArray.size_append]; have : (⟨#[10]⟩ : ByteArray).size = 1 := rfl; omega
                        · simp only; omega
                        · first | exact Ent.refl _ | exact Ent.nil _ | exact Take.ent' (by repeat' constructor) | (repeat (first | exact Ent.refl _ | refine Ent.drop ?_))
                      · refine Wp.skip ?_
                        refine Wp.region ?_
                        refine s_mv rfl rfl ?_
                        first | refine s_add rfl rfl rfl (w_i64 (by omega) (by omega)) ?_ | refine s_addw rfl rfl rfl ?_
                        refine s_as rfl rfl ?_
                        refine WpL.nil ?_
                        refine loopD.next (⟨k + 1, s2⟩ : WrX) ?_ ?_ (by first | ((repeat (first | exact Top.refl | refine Top.push rfl ?_ | refine Top.drop rfl ?_)); done) | exact Top.le (by repeat (first | exact FrLe.nil | refine FrLe.cons rfl ?_))) (by repeat (first | exact FrLe.nil | refine FrLe.cons rfl ?_)) ?_
                        · refine ⟨by simp only; omega, ?_, fun p hp => ?_, ?_⟩
                          · simp only
                            rw [wr_take hlt, ← List.append_assoc]
                            exact nl_f (by omega) (by omega) (by omega) hjb.symm
                          · rw [take_snoc' px hlt] at hp
                            rcases List.mem_append.1 hp with hp | hp
                            · exact hfit p hp
                            · have := List.mem_singleton.1 hp; subst this; exact hpf
                          · simp only; omega
                        · simp only; omega
                        · first | exact Ent.refl _ | exact Ent.nil _ | exact Take.ent' (by repeat' constructor) | (repeat (first | exact Ent.refl _ | refine Ent.drop ?_))
                    · have hg2 := of_decide_eq_true hg2
                      refine WpL.goff rfl rfl rfl (by decide) ?_
                      refine WpL.goff rfl rfl rfl (by decide) ?_
                      refine s_pickT rfl rfl rfl ?_
                      refine WpL.nil ?_
                      refine Wp.condT rfl ?_
                      refine Wp.region ?_
                      refine s_mv rfl rfl ?_
                      refine s_cat rfl rfl rfl (by have : (⟨#[10]⟩ : ByteArray).size = 1 := rfl; omega) ?_
                      refine s_as rfl rfl ?_
                      refine WpL.nil ?_
                      refine Wp.region ?_
                      refine s_mv rfl rfl ?_
                      first | refine s_add rfl rfl rfl (w_i64 (by omega) (by omega)) ?_ | refine s_addw rfl rfl rfl ?_
                      refine s_as rfl rfl ?_
                      refine WpL.nil ?_
                      refine loopD.next (⟨k + 1, s2 ++ ⟨#[10]⟩⟩ : WrX) ?_ ?_ (by first | ((repeat (first | exact Top.refl | refine Top.push rfl ?_ | refine Top.drop rfl ?_)); done) | exact Top.le (by repeat (first | exact FrLe.nil | refine FrLe.cons rfl ?_))) (by repeat (first | exact FrLe.nil | refine FrLe.cons rfl ?_)) ?_
                      · refine ⟨by simp only; omega, ?_, fun p hp => ?_, ?_⟩
                        · simp only
                          rw [bsOf_app, show bsOf ⟨#[10]⟩ = [10] from rfl, wr_take hlt, ← List.append_assoc]
                          exact nl_t (.inr (.inl (by omega))) hjb.symm
                        · rw [take_snoc' px hlt] at hp
                          rcases List.mem_append.1 hp with hp | hp
                          · exact hfit p hp
                          · have := List.mem_singleton.1 hp; subst this; exact hpf
                        · simp only [ByteArray.size_append]; have : (⟨#[10]⟩ : ByteArray).size = 1 := rfl; omega
                      · simp only; omega
                      · first | exact Ent.refl _ | exact Ent.nil _ | exact Take.ent' (by repeat' constructor) | (repeat (first | exact Ent.refl _ | refine Ent.drop ?_))
                  · have hg1 := of_decide_eq_true hg1
                    refine WpL.goff rfl rfl rfl (by decide) ?_
                    refine WpL.goff rfl rfl rfl (by decide) ?_
                    refine WpL.goff rfl rfl rfl (by decide) ?_
                    refine WpL.goff rfl rfl rfl (by decide) ?_
                    refine s_pickT rfl rfl rfl ?_
                    refine s_mv rfl rfl ?_
                    refine WpL.goff rfl rfl rfl (by decide) ?_
                    refine WpL.goff rfl rfl rfl (by decide) ?_
                    refine WpL.goff rfl rfl rfl (by decide) ?_
                    refine s_pickT rfl rfl rfl ?_
                    refine WpL.nil ?_
                    refine Wp.condT rfl ?_
                    refine Wp.region ?_
                    refine s_mv rfl rfl ?_
                    refine s_cat rfl rfl rfl (by have : (⟨#[10]⟩ : ByteArray).size = 1 := rfl; omega) ?_
                    refine s_as rfl rfl ?_
                    refine WpL.nil ?_
                    refine Wp.region ?_
                    refine s_mv rfl rfl ?_
                    first | refine s_add rfl rfl rfl (w_i64 (by omega) (by omega)) ?_ | refine s_addw rfl rfl rfl ?_
                    refine s_as rfl rfl ?_
                    refine WpL.nil ?_
                    refine loopD.next (⟨k + 1, s2 ++ ⟨#[10]⟩⟩ : WrX) ?_ ?_ (by first | ((repeat (first | exact Top.refl | refine Top.push rfl ?_ | refine Top.drop rfl ?_)); done) | exact Top.le (by repeat (first | exact FrLe.nil | refine FrLe.cons rfl ?_))) (by repeat (first | exact FrLe.nil | refine FrLe.cons rfl ?_)) ?_
                    · refine ⟨by simp only; omega, ?_, fun p hp => ?_, ?_⟩
                      · simp only
                        rw [bsOf_app, show bsOf ⟨#[10]⟩ = [10] from rfl, wr_take hlt, ← List.append_assoc]
                        exact nl_t (.inl (by omega)) hjb.symm
                      · rw [take_snoc' px hlt] at hp
                        rcases List.mem_append.1 hp with hp | hp
                        · exact hfit p hp
                        · have := List.mem_singleton.1 hp; subst this; exact hpf
                      · simp only [ByteArray.size_append]; have : (⟨#[10]⟩ : ByteArray).size = 1 := rfl; omega
                    · simp only; omega
                    · first | exact Ent.refl _ | exact Ent.nil _ | exact Take.ent' (by repeat' constructor) | (repeat (first | exact Ent.refl _ | refine Ent.drop ?_))
        · refine Wp.exit ?_
          refine Wp.seq ?_
          refine Wp.region ?_
          refine s_mv rfl rfl ?_
          refine s_as rfl rfl ?_
          refine s_as rfl rfl ?_
          refine WpL.nil ?_
          refine Wp.ret ?_
          apply RetQ.mk
          · exact (Res.two rfl rfl rfl)
          · have hke : k = px.length := by omega
            have hz : s.size ≤ px.length * 300000 := by rw [← hke]; exact hsz
            rw [hke, List.take_length] at hfit hbs
            exact ⟨_, _, rfl, .inl ⟨⟨hP, by omega, hfit⟩, rfl, hbs, hz⟩, rfl⟩
          · first | exact Ent.refl _ | exact Ent.nil _ | exact Take.ent' (by repeat' constructor) | (repeat (first | exact Ent.refl _ | refine Ent.drop ?_))

end Go.Proofs.YtggamdlpiejbiaaGreat
namespace Go.Proofs.YtggamdlpiejbiaaGreat
open Go.RowKit Go.Shelf


def b6 (k : Nat) : Int := match k with
  | 0 => 9
  | 1 => 10
  | 2 => 11
  | 3 => 12
  | 4 => 13
  | _ => 32
end Go.Proofs.YtggamdlpiejbiaaGreat
namespace Go.Proofs.YtggamdlpiejbiaaGreat
open Go.RowKit Go.Shelf


theorem unpackS_bd (p : Int) : ∀ x ∈ unpackS p, 0 ≤ x ∧ x ≤ 65535 := by
  intro x hx
  unfold unpackS at hx
  split at hx
  · simp at hx; omega
  · split at hx
    · simp at hx; omega
    · simp at hx
end Go.Proofs.YtggamdlpiejbiaaGreat
namespace Go.Proofs.YtggamdlpiejbiaaGreat
open Go.RowKit Go.Shelf


theorem u8s_app (xs ys : List Int) : u8s xs ++ u8s ys = u8s (xs ++ ys) := by simp [u8s]
end Go.Proofs.YtggamdlpiejbiaaGreat
namespace Go.Proofs.YtggamdlpiejbiaaGreat
open Go.RowKit Go.Shelf


theorem digs_len5 {x : Int} (h : x ≤ 65535) : 1 ≤ (digs x.toNat).length ∧ (digs x.toNat).length ≤ 5 := by
  rw [lowD_digs, List.length_reverse, List.length_map]
  obtain ⟨t, ht⟩ := lowD_head 10 x.toNat
  have := lowD_len20 (b := 10) (n := x.toNat) (by omega) 4 (by omega)
  rw [ht] at this ⊢
  simp only [List.length_cons] at this ⊢
  omega
theorem joinB_len : ∀ (xs : List Int), (∀ x ∈ xs, x ≤ 65535) → (joinB xs).length ≤ 6 * xs.length ∧ (xs ≠ [] → 1 ≤ (joinB xs).length)
  | [], _ => by simp [joinB]
  | [x], h => by
    have := digs_len5 (h x (by simp))
    simp only [joinB, List.length_cons, List.length_nil]; omega
  | x :: y :: xs, h => by
    have h1 := digs_len5 (h x (by simp))
    have h2 := joinB_len (y :: xs) fun z hz => h z (by simp [hz])
    simp only [joinB, List.length_append, List.length_cons] at h2 ⊢; omega
theorem joinB_byte : ∀ (xs : List Int), ∀ b ∈ joinB xs, 0 ≤ b ∧ b ≤ 255
  | [], b, hb => by simp [joinB] at hb
  | [x], b, hb => by have := digs_bd _ b hb; omega
  | x :: y :: xs, b, hb => by
    rw [joinB] at hb
    rcases List.mem_append.1 hb with hb | hb
    · have := digs_bd _ b hb; omega
    · rcases List.mem_cons.1 hb with hb | hb
      · omega
      · exact joinB_byte (y :: xs) b hb
theorem wrL_len {K W : Int} : ∀ (l : List Int) (i : Nat), (wrL K W i l).length ≤ 20 * l.length
  | [], i => by simp [wrL]
  | p :: l, i => by
    have h1 := wrL_len (K := K) (W := W) l (i + 1)
    have h2 := (joinB_len (unpackS p) fun x hx => (unpackS_bd p x hx).2).1
    have h3 := unpackS_len p
    simp only [wrL, pxB, List.length_append, List.length_cons]
    split <;> simp <;> omega
theorem wrL_byte {K W : Int} : ∀ (l : List Int) (i : Nat), ∀ b ∈ wrL K W i l, 0 ≤ b ∧ b ≤ 255
  | [], i, b, hb => by simp [wrL] at hb
  | p :: l, i, b, hb => by
    rw [wrL, pxB] at hb
    rcases List.mem_append.1 hb with hb | hb
    · rcases List.mem_append.1 hb with hb | hb
      · exact joinB_byte _ b hb
      · split at hb
        · simp at hb; omega
        · simp at hb
    · exact wrL_byte l (i + 1) b hb
theorem digs_str (n : Nat) : bsOf (strOfNums (digs n)) = digs n := bsOf_nums fun x hx => by have := digs_bd n x hx; omega
end Go.Proofs.YtggamdlpiejbiaaGreat
