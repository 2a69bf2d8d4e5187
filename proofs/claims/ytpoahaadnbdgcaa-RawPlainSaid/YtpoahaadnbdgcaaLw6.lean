/- Walks. -/
import Derived.Test.YtpoahaadnbdgcaaLw5
namespace Go.Proofs.Ytpoahaadnbdgcaa
open Go.RowKit Go.Shelf


def b6 (k : Nat) : Int := match k with
  | 0 => 9
  | 1 => 10
  | 2 => 11
  | 3 => 12
  | 4 => 13
  | _ => 32
theorem b6_at {k : Nat} (h : k < 6) : ([.int .u8 9, .int .u8 10, .int .u8 11, .int .u8 12, .int .u8 13, .int .u8 32] : List Value)[0 + k * 1]? = some (.int .u8 (b6 k)) := by
  have : k = 0 ∨ k = 1 ∨ k = 2 ∨ k = 3 ∨ k = 4 ∨ k = 5 := by omega
  rcases this with rfl | rfl | rfl | rfl | rfl | rfl <;> rfl
theorem b6_ok {k : Nat} (h : k < 6) : blankB (b6 k) = true ∧ 0 ≤ b6 k ∧ b6 k ≤ 255 := by
  have : k = 0 ∨ k = 1 ∨ k = 2 ∨ k = 3 ∨ k = 4 ∨ k = 5 := by omega
  rcases this with rfl | rfl | rfl | rfl | rfl | rfl <;> decide
theorem fit_of_can {p ch M : Int} (hc : ch = 1 ∨ ch = 3) (h1 : 1 ≤ M) (h2 : M ≤ 65535) (h : Can ch M p) : FitP p ch M := ⟨⟨hc, h1, h2⟩, h.1, fun x hx => (h.2.2 x hx).2⟩
theorem wr_good {K W H M : Int} {px : List Int} (hP : PlainH K W H M) (hl : (px.length : Int) = W * H) (hc : ∀ p ∈ px, Can (chK K) M p ∧ 0 ≤ p ∧ p < 18446744073709551616) : WrP K W H M px := by
  have h := hP.1
  unfold MayH at h
  exact ⟨hP, hl, fun p hp => fit_of_can (chK_or K) (by omega) (by omega) (hc p hp).1⟩
/-- What is put behind a byte. -/
def insB (K c b : Int) : List Int := if blankB b = true ∨ K = 1 then [b, c, c] else [b]
theorem insB_y {K c b : Int} (h : blankB b = true ∨ K = 1) : insB K c b = [b, c, c] := if_pos h
theorem insB_n {K c b : Int} (h1 : blankB b = false) (h2 : K ≠ 1) : insB K c b = [b] := if_neg (by rw [h1]; simp [h2])
theorem ins_take {K c : Int} {s : ByteArray} {k : Nat} (h : k < s.size) : ((bsOf s).take (k + 1)).flatMap (insB K c) = ((bsOf s).take k).flatMap (insB K c) ++ insB K c ((s[k]'h).toNat : Int) := by
  have hk : k < (bsOf s).length := by rw [bsOf_len]; exact h
  rw [take_snoc' _ hk, List.flatMap_append, bsOf_at h]
  simp
theorem mul_small {W H : Int} (h1 : 1 ≤ W) (h2 : W ≤ 4) (h3 : 1 ≤ H) (h4 : H ≤ 4) : 0 ≤ W * H ∧ W * H ≤ 16 := ⟨Int.mul_nonneg (by omega) (by omega), Int.mul_le_mul (c := 4) (d := 4) h2 h4 (by omega) (by omega)⟩
structure TxX where
  (k : Nat) (t : ByteArray)


end Go.Proofs.Ytpoahaadnbdgcaa
