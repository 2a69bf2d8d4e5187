/- Walks. -/
import Derived.Test.YtpoahaadnbdgcaaLw4
namespace Go.Proofs.Ytpoahaadnbdgcaa
open Go.RowKit Go.Shelf

theorem take_all {xs : List Int} {k : Nat} {mx : Int} (h : ∀ x ∈ xs.take k, x ≤ mx) (hlt : k < xs.length) (hx : xs[k] ≤ mx) : ∀ x ∈ xs.take (k + 1), x ≤ mx := by
  intro x hxm
  rw [take_snoc' xs hlt] at hxm
  rcases List.mem_append.1 hxm with hxm | hxm
  · exact h x hxm
  · have := List.mem_singleton.1 hxm; subst this; exact hx



theorem chK_or (K : Int) : chK K = 1 ∨ chK K = 3 := by unfold chK; split <;> simp
def WrP (K W H M : Int) (px : List Int) : Prop := PlainH K W H M ∧ (px.length : Int) = W * H ∧ ∀ p ∈ px, FitP p (chK K) M
/-- What stands behind j samples. -/
def pj (xs : List Int) (j : Nat) : List Int := if j = xs.length then joinB xs else (xs.take j).flatMap fun x => digs x.toNat ++ [32]
theorem pj_zero {xs : List Int} : pj xs 0 = [] := by
  unfold pj
  split
  · rename_i h; rw [List.eq_nil_of_length_eq_zero h.symm]; rfl
  · rfl
theorem pj_more {xs : List Int} (_h3 : xs.length = 1 ∨ xs.length = 3) {j : Nat} (hj : j + 1 < xs.length) : pj xs j ++ digs (xs[j]).toNat ++ [32] = pj xs (j + 1) := by
  unfold pj
  rw [if_neg (by omega), if_neg (by omega), take_snoc' xs (by omega), List.flatMap_append]
  simp
theorem pj_end {xs : List Int} (h3 : xs.length = 1 ∨ xs.length = 3) {j : Nat} (hj : j + 1 = xs.length) : pj xs j ++ digs (xs[j]'(by omega)).toNat = pj xs (j + 1) := by
  match xs, h3 with
  | [x], _ =>
    have : j = 0 := by simpa using hj
    subst this
    simp [pj, joinB]
  | [x, y, z], _ =>
    have : j = 2 := by simpa using hj
    subst this
    simp [pj, joinB]
  | [_, _], h => simp at h
  | _ :: _ :: _ :: _ :: _, h => simp at h
theorem pj_all {xs : List Int} : pj xs xs.length = joinB xs := if_pos rfl
theorem wr_take {K W : Int} {px : List Int} {k : Nat} (h : k < px.length) : wrL K W 0 (px.take (k + 1)) = wrL K W 0 (px.take k) ++ (joinB (unpackS px[k]) ++ if nlB K W k = true then [10] else []) := by
  rw [take_snoc' px h, wrL_snoc]
  simp only [pxB, Nat.zero_add, List.length_take, show min k px.length = k by omega]
theorem nl_t {K W : Int} {k : Nat} (h : K > 1 ∨ (k : Int) % W = W - 1 ∨ (k : Int) % W % 70 = 69) {b bs : List Int} (e : bs = b) : b ++ [10] = bs ++ (if nlB K W k = true then [10] else []) := by
  rw [show nlB K W k = true from decide_eq_true h, if_pos rfl, e]
theorem nl_f {K W : Int} {k : Nat} (h1 : ¬ K > 1) (h2 : ¬ (k : Int) % W = W - 1) (h3 : ¬ (k : Int) % W % 70 = 69) {b bs : List Int} (e : bs = b) : b = bs ++ (if nlB K W k = true then [10] else []) := by
  rw [show nlB K W k = false from decide_eq_false (by omega), e]; simp
structure WrX where
  (k : Nat) (s : ByteArray)


end Go.Proofs.Ytpoahaadnbdgcaa
