/- Walks. -/
import Derived.Test.YtpoahaadnbdgcaaNum
import Derived.Test.YtpoahaadnbdgcaaLw6
namespace Go.Proofs.Ytpoahaadnbdgcaa
open Go.RowKit Go.Shelf


theorem unpackS_bd (p : Int) : ∀ x ∈ unpackS p, 0 ≤ x ∧ x ≤ 65535 := by
  intro x hx
  unfold unpackS at hx
  split at hx
  · simp at hx; omega
  · split at hx
    · simp at hx; omega
    · simp at hx
def dgl (x : Int) : Int := ((digs x.toNat).length : Int)
theorem dgl_bd {x : Int} (h : x ≤ 65535) : 0 ≤ dgl x ∧ dgl x ≤ 5 := by
  unfold dgl
  rw [lowD_digs, List.length_reverse, List.length_map]
  have := lowD_len20 (b := 10) (n := x.toNat) (by omega) 4 (by omega)
  omega
def dsum (xs : List Int) : Int := (xs.map dgl).sum
theorem dsum_snoc (xs : List Int) {k : Nat} (h : k < xs.length) : dsum (xs.take k) + dgl xs[k] = dsum (xs.take (k + 1)) := by
  unfold dsum
  rw [take_snoc' xs h, List.map_append, List.sum_append]; simp
theorem dsum_bd (xs : List Int) (h : ∀ x ∈ xs, x ≤ 65535) : 0 ≤ dsum xs ∧ dsum xs ≤ 5 * (xs.length : Int) := by
  induction xs with
  | nil => simp [dsum]
  | cons x xs ih =>
    have h1 := dgl_bd (h x (by simp))
    have h2 := ih fun y hy => h y (by simp [hy])
    unfold dsum at *
    simp only [List.map_cons, List.sum_cons, List.length_cons]
    omega
def psum (px : List Int) : Int := (px.map fun p => dsum (unpackS p)).sum
theorem psum_snoc (px : List Int) {k : Nat} (h : k < px.length) : psum (px.take k) + dsum (unpackS px[k]) = psum (px.take (k + 1)) := by
  unfold psum
  rw [take_snoc' px h, List.map_append, List.sum_append]; simp
theorem psum_bd (px : List Int) : 0 ≤ psum px ∧ psum px ≤ 15 * (px.length : Int) := by
  induction px with
  | nil => simp [psum]
  | cons p px ih =>
    have h1 := dsum_bd (unpackS p) fun x hx => (unpackS_bd p x hx).2
    have h2 := unpackS_len p
    unfold psum at *
    simp only [List.map_cons, List.sum_cons, List.length_cons]
    omega



end Go.Proofs.Ytpoahaadnbdgcaa
