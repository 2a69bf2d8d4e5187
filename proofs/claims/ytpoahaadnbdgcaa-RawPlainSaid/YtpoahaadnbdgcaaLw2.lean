/- Walks. -/
import Derived.Test.YtpoahaadnbdgcaaLw
namespace Go.Proofs.Ytpoahaadnbdgcaa
open Go.RowKit Go.Shelf



theorem endR_inv {K W H : Int} {k m : Nat} {s : RS} (hs : RInv (chK K) k m s) : RInv (chK K) (k + 1) m (endR K W H s).1 := by
  have h := endsR_inv (chK_pos K).1 hs
  have hk := (endsR_keep (chK K) s).1
  have h2 := fullR_inv (W := W) (H := H) (chK_pos K).1 h (by rw [hk]; exact hs.2.2.2)
  obtain ⟨h3, h4, h5, h6⟩ := h2
  unfold endR
  split
  · exact hs.up
  · split
    · exact ⟨h3, by simp only [wrongR]; omega, h5, h6⟩
    · exact ⟨h3, by omega, h5, h6⟩
theorem endR_good {K W H : Int} {s : RS} (hW : 1 ≤ W) (h : RGood K W s) : RGood K W (endR K W H s).1 := by
  have h2 : RGood K W (fullR W H (endsR (chK K) s)).1 := fullR_good hW (by rw [endsR_n]; decide) (fun _ => endsR_n)
  unfold endR
  split
  · exact h
  · split
    · exact h2
    · exact h2
theorem endR_last {K W H : Int} {s : RS} : (endR K W H s).1.last ≠ 0 := by
  unfold endR
  split
  · assumption
  · split
    · simp [wrongR]
    · assumption
theorem RInv.zero {ch : Int} {k m : Nat} {s : RS} (h : RInv ch k m s) : RInv ch k 0 s := ⟨h.1, by have := h.2.1; omega, h.2.2⟩
theorem head_plain {K W H M m : Int} (hm : 1 ≤ m) (hm2 : m ≤ 4096) : PlainH (hdK K) (1 + aroundI W m) (1 + aroundI H m) (gdM (gdK K) M) := by
  have h1 := gdK_bd K
  have h2 := gdM_bd (gdK K) M
  have h3 := aroundI_bd (x := W) hm
  have h4 := aroundI_bd (x := H) hm
  have h5 : gdK K = 1 ∨ gdK K = 4 → gdM (gdK K) M = 1 := fun h => if_pos h
  unfold PlainH MayH hdK
  split <;> omega
structure StX where
  (k : Nat) (n : Int) (one row : List Int) (rows last e : Int) (a1 : Option Addr) (c1 : Nat) (a2 : Option Addr) (c2 : Nat) (b1 : Option Addr) (d1 : Nat) (b2 : Option Addr) (d2 : Nat)


end Go.Proofs.Ytpoahaadnbdgcaa
