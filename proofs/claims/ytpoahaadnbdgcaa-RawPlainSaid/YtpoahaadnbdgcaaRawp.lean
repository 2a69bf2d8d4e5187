/- Bytes of raw rasters, in plain Lean. -/
import Derived.Test.YtpoahaadnbdgcaaWr3
import Derived.Test.YtpoahaadnbdgcaaRaw
namespace Go.Proofs.Ytpoahaadnbdgcaa
open Go.RowKit Go.Shelf

def bitv (x : Int) : Prop := x = 0 ∨ x = 1
/-- Bits joined, the highest first: the first one weighs w. -/
def bw : List Int → Nat → Int
  | [], _ => 0
  | x :: xs, m => x * 2 ^ m + bw xs (m - 1)
theorem bw_bd : ∀ (xs : List Int) (m : Nat), xs.length ≤ m + 1 → (∀ x ∈ xs, bitv x) → 0 ≤ bw xs m ∧ bw xs m < 2 ^ (m + 1)
  | [], m, _, _ => ⟨by simp [bw], by simp only [bw]; exact_mod_cast Nat.two_pow_pos (m + 1)⟩
  | x :: xs, m, hl, hb => by
    have hx := hb x (by simp)
    have h2 : (0 : Int) < 2 ^ m := by exact_mod_cast Nat.two_pow_pos m
    rw [Int.pow_succ]
    cases m with
    | zero =>
      have : xs = [] := List.eq_nil_of_length_eq_zero (by simp only [List.length_cons] at hl; omega)
      subst this
      unfold bitv at hx
      simp only [bw]; rcases hx with rfl | rfl <;> simp
    | succ m =>
      have ih := bw_bd xs m (by simp at hl; omega) fun y hy => hb y (by simp [hy])
      unfold bitv at hx
      simp only [bw, Nat.add_sub_cancel]
      rcases hx with rfl | rfl <;> omega
theorem bw_snoc (b : Int) : ∀ (xs : List Int) (m : Nat), xs.length ≤ m → bw (xs ++ [b]) m = bw xs m + b * 2 ^ (m - xs.length)
  | [], m, _ => by simp [bw]
  | x :: xs, m, h => by
    simp only [List.length_cons] at h
    rw [List.cons_append, bw, bw, bw_snoc b xs (m - 1) (by omega), List.length_cons, show m - 1 - xs.length = m - (xs.length + 1) by omega]
    omega
/-- What stands above a place is a multiple. -/
theorem bw_mul : ∀ (xs : List Int) (m : Nat), xs.length ≤ m + 1 → ∃ q, bw xs m = q * 2 ^ (m + 1 - xs.length)
  | [], m, _ => ⟨0, by simp [bw]⟩
  | x :: xs, m, h => by
    simp only [List.length_cons] at h
    cases m with
    | zero =>
      have : xs = [] := List.eq_nil_of_length_eq_zero (by omega)
      subst this
      exact ⟨x, by simp [bw]⟩
    | succ m =>
      obtain ⟨q, hq⟩ := bw_mul xs m (by omega)
      refine ⟨x * 2 ^ xs.length + q, ?_⟩
      rw [bw, Nat.add_sub_cancel, hq, Int.add_mul, Int.mul_assoc, ← Int.pow_add]
      rw [List.length_cons, show xs.length + (m + 1 + 1 - (xs.length + 1)) = m + 1 by omega, show m + 1 + 1 - (xs.length + 1) = m + 1 - xs.length by omega]
theorem bw_bit : ∀ (xs : List Int) (m t : Nat) (ht : t < xs.length), xs.length ≤ m + 1 → (∀ x ∈ xs, bitv x) → bw xs m / 2 ^ (m - t) % 2 = xs[t]
  | x :: xs, m, t, ht, hl, hb => by
    have hx := hb x (by simp)
    simp only [List.length_cons] at hl
    cases t with
    | zero =>
      simp only [Nat.sub_zero, List.getElem_cons_zero, bw]
      have h2 : (0 : Int) < 2 ^ m := by exact_mod_cast Nat.two_pow_pos m
      have hr : 0 ≤ bw xs (m - 1) ∧ bw xs (m - 1) < 2 ^ m := by
        cases m with
        | zero =>
          have : xs = [] := List.eq_nil_of_length_eq_zero (by omega)
          subst this
          simp [bw]
        | succ m => exact bw_bd xs m (by omega) fun y hy => hb y (by simp [hy])
      rw [Int.add_comm, Int.add_mul_ediv_right _ _ (by omega), Int.ediv_eq_zero_of_lt hr.1 hr.2]
      unfold bitv at hx
      rcases hx with rfl | rfl <;> rfl
    | succ t =>
      simp only [List.length_cons] at ht
      cases m with
      | zero => omega
      | succ m =>
        have ih := bw_bit xs m t (by omega) (by omega) fun y hy => hb y (by simp [hy])
        simp only [List.getElem_cons_succ, bw, Nat.add_sub_cancel]
        rw [show m + 1 - (t + 1) = m - t by omega, ← ih]
        have e : (2 : Int) ^ (m + 1) = 2 * 2 ^ t * 2 ^ (m - t) := by
          rw [Int.mul_assoc, ← Int.pow_add, show t + (m - t) = m by omega, Int.pow_succ, Int.mul_comm]
        have h2 : (2 : Int) ^ (m - t) ≠ 0 := by have := Nat.two_pow_pos (m - t); exact_mod_cast Nat.ne_of_gt this
        rw [e, ← Int.mul_assoc, Int.add_comm, Int.add_mul_ediv_right _ _ h2]
        rw [show x * (2 * 2 ^ t) = 2 * (x * 2 ^ t) from by rw [← Int.mul_assoc, Int.mul_comm x 2, Int.mul_assoc]]
        omega
def byteOf (xs : List Int) : Int := bw xs 7
def byteAt (l : List Int) (j : Nat) : Int := byteOf ((l.drop (8 * j)).take 8)
def packB (l : List Int) : List Int := (List.range ((l.length + 7) / 8)).map (byteAt l)
def bitAt (bs : List Int) (i : Nat) : Int := (bs[i / 8]?.getD 0) / 2 ^ (7 - i % 8) % 2
def ubits (bs : List Int) (w : Nat) : List Int := (List.range w).map (bitAt bs)
theorem packB_len (l : List Int) : (packB l).length = (l.length + 7) / 8 := by simp [packB]
theorem byteAt_bd {l : List Int} (h : ∀ x ∈ l, bitv x) (j : Nat) : 0 ≤ byteAt l j ∧ byteAt l j ≤ 255 := by
  have := bw_bd ((l.drop (8 * j)).take 8) 7 (by rw [List.length_take]; omega) fun x hx => h x (List.mem_of_mem_drop (List.mem_of_mem_take hx))
  unfold byteAt byteOf
  omega
theorem packB_bd {l : List Int} (h : ∀ x ∈ l, bitv x) : ∀ b ∈ packB l, 0 ≤ b ∧ b ≤ 255 := by
  intro b hb
  obtain ⟨j, _, rfl⟩ := List.mem_map.1 hb
  exact byteAt_bd h j
theorem ubits_packB {l : List Int} (h : ∀ x ∈ l, bitv x) : ubits (packB l) l.length = l := by
  apply List.ext_getElem
  · simp [ubits]
  · intro i h1 h2
    simp only [ubits, List.getElem_map, List.getElem_range, bitAt]
    have hj : i / 8 < (packB l).length := by rw [packB_len]; omega
    rw [List.getElem?_eq_getElem hj]
    simp only [packB, List.getElem_map, List.getElem_range, Option.getD_some, byteAt, byteOf]
    have hl : i % 8 < ((l.drop (8 * (i / 8))).take 8).length := by
      rw [List.length_take, List.length_drop]
      omega
    rw [bw_bit _ 7 (i % 8) hl (by rw [List.length_take]; omega) (fun x hx => h x (List.mem_of_mem_drop (List.mem_of_mem_take hx)))]
    simp only [List.getElem_take, List.getElem_drop]
    congr 1
    omega
theorem byte_seg {l : List Int} {i : Nat} (hi : i < l.length) : ((l.take (i + 1)).drop (8 * (i / 8))).take 8 = ((l.take i).drop (8 * (i / 8))).take 8 ++ [l[i]] := by
  have h1 : ((l.take i).drop (8 * (i / 8))).length = i % 8 := by rw [List.length_drop, List.length_take]; omega
  rw [take_snoc' l hi, List.drop_append_of_le_length (by rw [List.length_take]; omega), List.take_append, h1]
  rw [show 8 - i % 8 = (7 - i % 8) + 1 by omega, List.take_succ_cons, List.take_nil]
theorem byte_segl {l : List Int} {i : Nat} (hi : i < l.length) : (((l.take i).drop (8 * (i / 8))).take 8).length = i % 8 := by rw [List.length_take, List.length_drop, List.length_take]; omega
theorem byteAt_step {l : List Int} {i : Nat} (hi : i < l.length) : byteAt (l.take (i + 1)) (i / 8) = byteAt (l.take i) (i / 8) + l[i] * 2 ^ (7 - i % 8) := by
  unfold byteAt byteOf
  rw [byte_seg hi, bw_snoc _ _ _ (by rw [byte_segl hi]; omega), byte_segl hi]
theorem byteAt_mul {l : List Int} {i : Nat} (hi : i < l.length) : ∃ q, byteAt (l.take i) (i / 8) = q * 2 ^ (7 - i % 8 + 1) := by
  obtain ⟨q, hq⟩ := bw_mul (((l.take i).drop (8 * (i / 8))).take 8) 7 (by rw [byte_segl hi]; omega)
  rw [byte_segl hi, show 7 + 1 - i % 8 = 7 - i % 8 + 1 by omega] at hq
  exact ⟨q, hq⟩
theorem byteAt_other {l : List Int} {i j : Nat} (hi : i < l.length) (h : j ≠ i / 8) : byteAt (l.take (i + 1)) j = byteAt (l.take i) j := by
  unfold byteAt
  congr 1
  rw [take_snoc' l hi]
  by_cases h1 : 8 * j ≤ i
  · rw [List.drop_append_of_le_length (by rw [List.length_take]; omega), List.take_append_of_le_length (by rw [List.length_drop, List.length_take]; omega)]
  · rw [List.drop_eq_nil_of_le (by rw [List.length_append, List.length_take]; simp; omega), List.drop_eq_nil_of_le (by rw [List.length_take]; omega)]
def outB (l : List Int) (n i : Nat) : List Int := (List.range n).map (byteAt (l.take i))
theorem outB_len (l : List Int) (n i : Nat) : (outB l n i).length = n := by simp [outB]
theorem outB_zero (l : List Int) (n : Nat) : outB l n 0 = List.replicate n 0 := by
  unfold outB
  apply List.ext_getElem
  · simp
  · intro k h1 h2
    simp [byteAt, byteOf, bw]
theorem outB_all (l : List Int) : outB l ((l.length + 7) / 8) l.length = packB l := by unfold outB packB; rw [List.take_length]
theorem outB_step {l : List Int} {n i : Nat} (hi : i < l.length) (_hn : i / 8 < n) : (outB l n i).set (i / 8) (byteAt (l.take i) (i / 8) + l[i] * 2 ^ (7 - i % 8)) = outB l n (i + 1) := by
  apply List.ext_getElem
  · simp [outB]
  · intro k h1 h2
    rw [List.getElem_set]
    simp only [outB, List.getElem_map, List.getElem_range]
    split
    · rename_i e; rw [← e, byteAt_step hi]
    · rename_i e; rw [byteAt_other hi (Ne.symm e)]
theorem or_bits {q b : Int} {s : Nat} (hq : 0 ≤ q) (hb : bitv b) : (((q * 2 ^ (s + 1)).toNat ||| (b * 2 ^ s).toNat : Nat) : Int) = q * 2 ^ (s + 1) + b * 2 ^ s := by
  obtain ⟨a, rfl⟩ := Int.eq_ofNat_of_zero_le hq
  have e : (((a : Int) * 2 ^ (s + 1)).toNat) = a <<< (s + 1) := by
    rw [Nat.shiftLeft_eq]; exact_mod_cast Int.toNat_natCast (a * 2 ^ (s + 1))
  rw [e]
  unfold bitv at hb
  have hlt : 2 ^ s < 2 ^ (s + 1) := Nat.pow_lt_pow_right (by omega) (by omega)
  rcases hb with rfl | rfl
  · simp [Nat.shiftLeft_eq]
  · have e2 : ((1 : Int) * 2 ^ s).toNat = 2 ^ s := by rw [Int.one_mul]; exact_mod_cast Int.toNat_natCast (2 ^ s)
    rw [e2, ← Nat.shiftLeft_add_eq_or_of_lt hlt, Nat.shiftLeft_eq]
    push_cast
    omega
def wideM (M : Int) : Nat := if 255 < M then 2 else 1
theorem wideM_or (M : Int) : wideM M = 1 ∨ wideM M = 2 := by unfold wideM; split <;> simp
def encS (w : Nat) (x : Int) : List Int := if w = 1 then [x] else [x / 256, x % 256]
def smpAt (w : Nat) (b : List Int) (i : Nat) : Int := if w = 1 then b[i]?.getD 0 else (b[2 * i]?.getD 0) * 256 + (b[2 * i + 1]?.getD 0)
def smps (w : Nat) (b : List Int) : List Int := (List.range (b.length / w)).map (smpAt w b)
theorem enc_len {w : Nat} (hw : w = 1 ∨ w = 2) (xs : List Int) : (xs.flatMap (encS w)).length = xs.length * w := by
  induction xs with
  | nil => simp
  | cons x xs ih =>
    rw [List.flatMap_cons, List.length_append, ih, List.length_cons, Nat.add_mul]
    rcases hw with rfl | rfl <;> simp [encS] <;> omega
theorem enc_at {w : Nat} (hw : w = 1 ∨ w = 2) : ∀ (xs : List Int) (i : Nat) (hi : i < xs.length), smpAt w (xs.flatMap (encS w)) i = xs[i]
  | x :: xs, 0, _ => by
    rcases hw with rfl | rfl
    · simp [smpAt, encS]
    · simp [smpAt, encS]; omega
  | x :: xs, i + 1, hi => by
    have ih := enc_at hw xs i (by simpa using hi)
    rw [List.getElem_cons_succ, ← ih]
    rcases hw with rfl | rfl
    · simp [smpAt, encS]
    · simp only [smpAt, encS, List.flatMap_cons]
      rw [show 2 * (i + 1) = 2 * i + 2 by omega, show 2 * i + 2 + 1 = (2 * i + 1) + 2 by omega]
      simp
theorem smps_enc {w : Nat} (hw : w = 1 ∨ w = 2) (xs : List Int) : smps w (xs.flatMap (encS w)) = xs := by
  apply List.ext_getElem
  · simp only [smps, List.length_map, List.length_range, enc_len hw]
    rcases hw with rfl | rfl <;> omega
  · intro i h1 h2
    simp only [smps, List.getElem_map, List.getElem_range]
    exact enc_at hw xs i h2
theorem enc_bd {w : Nat} {xs : List Int} (h : ∀ x ∈ xs, 0 ≤ x ∧ x ≤ 65535) (h1 : w = 1 → ∀ x ∈ xs, x ≤ 255) : ∀ b ∈ xs.flatMap (encS w), 0 ≤ b ∧ b ≤ 255 := by
  intro b hb
  obtain ⟨x, hx, hb⟩ := List.mem_flatMap.1 hb
  have := h x hx
  unfold encS at hb
  split at hb
  · rename_i hw; have := h1 hw x hx; simp at hb; omega
  · simp at hb; omega
def chunkP (ch : Nat) (l : List Int) : List Int := (List.range (l.length / ch)).map fun k => (packS ((l.drop (k * ch)).take ch)).1
theorem flat_len {ch : Nat} (px : List Int) (h : ∀ p ∈ px, (unpackS p).length = ch) : (px.flatMap unpackS).length = px.length * ch := by
  induction px with
  | nil => simp
  | cons p px ih =>
    rw [List.flatMap_cons, List.length_append, ih fun q hq => h q (by simp [hq]), h p (by simp), List.length_cons, Nat.add_mul]
    omega
theorem flat_at {ch : Nat} : ∀ (px : List Int) (_ : ∀ p ∈ px, (unpackS p).length = ch) (k : Nat) (hk : k < px.length), ((px.flatMap unpackS).drop (k * ch)).take ch = unpackS px[k]
  | p :: px, h, 0, _ => by
    rw [List.flatMap_cons, Nat.zero_mul, List.drop_zero, List.take_append_of_le_length (by rw [h p (by simp)]; omega), List.take_of_length_le (by rw [h p (by simp)]; omega)]
    rfl
  | p :: px, h, k + 1, hk => by
    have ih := flat_at px (fun q hq => h q (by simp [hq])) k (by simpa using hk)
    rw [List.flatMap_cons, List.getElem_cons_succ, ← ih, Nat.add_mul, Nat.one_mul, Nat.add_comm (k * ch), ← List.drop_drop, List.drop_append_of_le_length (by rw [h p (by simp)]; omega), show (unpackS p).drop ch = [] from List.drop_of_length_le (by rw [h p (by simp)]; omega), List.nil_append]
theorem chunk_flat {ch : Nat} {M : Int} (h0 : 0 < ch) (px : List Int) (h : ∀ p ∈ px, Can (ch : Int) M p) : chunkP ch (px.flatMap unpackS) = px := by
  have hl : ∀ p ∈ px, (unpackS p).length = ch := fun p hp => by exact_mod_cast (h p hp).1
  apply List.ext_getElem
  · simp only [chunkP, List.length_map, List.length_range, flat_len px hl]
    exact Nat.mul_div_cancel _ h0
  · intro k h1 h2
    simp only [chunkP, List.getElem_map, List.getElem_range, flat_at px hl k h2]
    exact (h _ (List.getElem_mem h2)).2.1
def rowB (K : Int) (w : Nat) (row : List Int) : List Int := if K = 4 then packB row else row.flatMap (encS w)
def rowD (K : Int) (W : Nat) (w : Nat) (b : List Int) : List Int := chunkP (chK K).toNat (if K = 4 then ubits b W else smps w b)
structure RW where
  (b : List Int) (n : Nat) (rows last e : Int)
/-- A raw raster's reader, told a byte. -/
def putW (K : Int) (W : Nat) (H M : Int) (s : RW) (c : Int) : RW × List Int :=
  if s.last ≠ 0 then (s, []) else
  if K ≠ 4 ∧ (s.n + 1) % wideM M = 0 ∧ smpAt (wideM M) (s.b.set s.n c) ((s.n + 1) / wideM M - 1) > M then (⟨s.b.set s.n c, s.n + 1, s.rows, 2, 5⟩, []) else
  if s.n + 1 < s.b.length then (⟨s.b.set s.n c, s.n + 1, s.rows, 0, s.e⟩, []) else
  (⟨s.b.set s.n c, 0, s.rows + 1, if s.rows + 1 = H then 1 else 0, s.e⟩, rowD K W (wideM M) (s.b.set s.n c))
def readW (K : Int) (W : Nat) (H M : Int) : List Int → RW → List Int → List Int × Int
  | [], _, _ => ([], 6)
  | c :: bs, s, acc => if (putW K W H M s c).1.last = 1 then (acc ++ (putW K W H M s c).2, 0) else if (putW K W H M s c).1.last = 2 then ([], (putW K W H M s c).1.e) else readW K W H M bs (putW K W H M s c).1 (acc ++ (putW K W H M s c).2)
/-- One row's bytes. -/
theorem row_feed {K H M : Int} {W : Nat} {rb : List Int} (hok : K ≠ 4 → ∀ i, i < rb.length / wideM M → smpAt (wideM M) rb i ≤ M) (rows e : Int) (bs acc : List Int) : ∀ (k : Nat) (b : List Int), b.length = rb.length → k < rb.length → b.take k = rb.take k →
    readW K W H M (rb.drop k ++ bs) ⟨b, k, rows, 0, e⟩ acc = if rows + 1 = H then (acc ++ rowD K W (wideM M) rb, 0) else readW K W H M bs ⟨rb, 0, rows + 1, 0, e⟩ (acc ++ rowD K W (wideM M) rb) := by
  intro k
  generalize hm : rb.length - k = m
  induction m generalizing k with
  | zero => intro b _ hk _; omega
  | succ m ih =>
    intro b hb hk ht
    rw [List.drop_eq_getElem_cons hk, List.cons_append, readW]
    have hset : (b.set k rb[k]).take (k + 1) = rb.take (k + 1) := by
      rw [List.take_set, List.take_succ_eq_append_getElem (by omega), List.take_succ_eq_append_getElem hk, ht]
      rw [List.set_append_right _ _ (by rw [List.length_take]; omega)]
      simp [List.length_take, Nat.min_eq_left (Nat.le_of_lt hk)]
    have hbad : ¬ (K ≠ 4 ∧ (k + 1) % wideM M = 0 ∧ smpAt (wideM M) (b.set k rb[k]) ((k + 1) / wideM M - 1) > M) := by
      rintro ⟨h1, h2, h3⟩
      have hw := wideM_or M
      have hi : (k + 1) / wideM M - 1 < rb.length / wideM M := by
        rcases hw with hw | hw <;> rw [hw] at h2 ⊢ <;> omega
      have h4 := hok h1 _ hi
      have hq : ∀ j, j < k + 1 → (b.set k rb[k])[j]? = rb[j]? := fun j hj => by
        have := congrArg (fun l => l[j]?) hset
        simpa [List.getElem?_take, hj] using this
      have h5 : smpAt (wideM M) (b.set k rb[k]) ((k + 1) / wideM M - 1) = smpAt (wideM M) rb ((k + 1) / wideM M - 1) := by
        unfold smpAt
        rcases hw with hw | hw
        · rw [hw] at h2 ⊢
          rw [if_pos rfl, if_pos rfl, hq _ (by omega)]
        · rw [hw] at h2 ⊢
          rw [if_neg (by omega), if_neg (by omega), hq _ (by omega), hq _ (by omega)]
      omega
    have hlen : (b.set k rb[k]).length = rb.length := by rw [List.length_set, hb]
    by_cases hlast : k + 1 < rb.length
    · have hp : putW K W H M ⟨b, k, rows, 0, e⟩ rb[k] = (⟨b.set k rb[k], k + 1, rows, 0, e⟩, []) := by
        unfold putW
        rw [if_neg (by simp), if_neg hbad, if_pos (by simpa [hb] using hlast)]
      rw [hp]
      simp only [List.append_nil]
      rw [if_neg (by decide), if_neg (by decide)]
      exact ih (k + 1) (by omega) _ hlen hlast hset
    · have hall : b.set k rb[k] = rb := by
        have h1 : (b.set k rb[k]).take (k + 1) = b.set k rb[k] := List.take_of_length_le (by omega)
        have h2 : rb.take (k + 1) = rb := List.take_of_length_le (by omega)
        rw [← h1, hset, h2]
      have hp : putW K W H M ⟨b, k, rows, 0, e⟩ rb[k] = (⟨rb, 0, rows + 1, if rows + 1 = H then 1 else 0, e⟩, rowD K W (wideM M) rb) := by
        unfold putW
        rw [if_neg (by simp), if_neg hbad, if_neg (by simp [hb]; omega)]
        simp only [hall]
      rw [hp, show rb.drop (k + 1) = [] from List.drop_of_length_le (by omega), List.nil_append]
      by_cases hh : rows + 1 = H
      · simp [hh]
      · simp [hh]
/-- All rows' bytes. -/
theorem rows_feed {K H M : Int} {W st : Nat} (hst : 0 < st) : ∀ (rs : List (List Int)) (_ : ∀ r ∈ rs, r.length = st ∧ (K ≠ 4 → ∀ i, i < r.length / wideM M → smpAt (wideM M) r i ≤ M)) (_ : rs ≠ []) (rows e : Int) (b acc : List Int), b.length = st → rows + (rs.length : Int) = H →
    readW K W H M rs.flatten ⟨b, 0, rows, 0, e⟩ acc = (acc ++ (rs.map (rowD K W (wideM M))).flatten, 0)
  | [], _, h, _, _, _, _, _, _ => absurd rfl h
  | r :: rs, hr, _, rows, e, b, acc, hb, hH => by
    have h1 := hr r (by simp)
    have h2 := row_feed (K := K) (H := H) (M := M) (W := W) (rb := r) h1.2 rows e rs.flatten acc 0 b (by omega) (by omega) (by simp)
    rw [List.drop_zero] at h2
    rw [List.flatten_cons, h2]
    simp only [List.length_cons] at hH
    push_cast at hH
    cases rs with
    | nil =>
      simp only [List.length_nil] at hH
      rw [if_pos (by omega)]; simp
    | cons r2 rs =>
      simp only [List.length_cons] at hH
      push_cast at hH
      rw [if_neg (by omega), rows_feed hst (r2 :: rs) (fun q hq => hr q (by simp [hq])) (by simp) (rows + 1) e r _ h1.1 (by simp only [List.length_cons]; push_cast; omega)]
      simp
/-- A raster's bytes: row by row. -/
def wrRows (K : Int) (W w : Nat) (px : List Int) (n : Nat) : List (List Int) := (List.range n).map fun y => rowB K w (((px.drop (y * W)).take W).flatMap unpackS)
def wrRaw (K : Int) (W w : Nat) (px : List Int) (n : Nat) : List Int := (wrRows K W w px n).flatten
def strd (K : Int) (W w : Nat) : Nat := if K = 4 then (W + 7) / 8 else W * (chK K).toNat * w
theorem row_len {K M : Int} {W w : Nat} (hw : w = 1 ∨ w = 2) {row : List Int} (hr : row.length = W) (hc : ∀ p ∈ row, Can (chK K) M p) : (rowB K w (row.flatMap unpackS)).length = strd K W w := by
  have hl : ∀ p ∈ row, (unpackS p).length = (chK K).toNat := fun p hp => by have := (hc p hp).1; omega
  unfold rowB strd
  split
  · rename_i h4
    have e1 : (chK K).toNat = 1 := by rw [h4]; rfl
    rw [packB_len, flat_len row hl, e1, Nat.mul_one, hr]
  · rw [enc_len hw, flat_len row hl, hr]
theorem row_back {K M : Int} {W w : Nat} (hw : w = 1 ∨ w = 2) (h4 : K = 4 → M = 1) {row : List Int} (hr : row.length = W) (hc : ∀ p ∈ row, Can (chK K) M p) : rowD K W w (rowB K w (row.flatMap unpackS)) = row := by
  have hch : chK K = 1 ∨ chK K = 3 := by unfold chK; split <;> simp
  have hl : ∀ p ∈ row, (unpackS p).length = (chK K).toNat := fun p hp => by have := (hc p hp).1; omega
  have hcast : (((chK K).toNat : Nat) : Int) = chK K := by omega
  have hcf : chunkP (chK K).toNat (row.flatMap unpackS) = row := chunk_flat (M := M) (by omega) row (fun p hp => by rw [hcast]; exact hc p hp)
  unfold rowD rowB
  split
  · rename_i hK
    have e1 : (chK K).toNat = 1 := by rw [hK]; rfl
    have hlen : (row.flatMap unpackS).length = W := by rw [flat_len row hl, e1, Nat.mul_one, hr]
    have hb : ∀ x ∈ row.flatMap unpackS, bitv x := fun x hx => by
      obtain ⟨p, hp, hx⟩ := List.mem_flatMap.1 hx
      have := (hc p hp).2.2 x hx
      have := h4 hK
      unfold bitv; omega
    have := ubits_packB hb
    rw [hlen] at this
    rw [this, hcf]
  · rw [smps_enc hw, hcf]
theorem raw_back {K M : Int} {W Hn : Nat} (hW : 0 < W) (hH : 0 < Hn) (h4 : K = 4 → M = 1) {px : List Int} (hl : px.length = W * Hn) (hc : ∀ p ∈ px, Can (chK K) M p) (b : List Int) (hb : b.length = strd K W (wideM M)) (e : Int) :
    readW K W (Hn : Int) M (wrRaw K W (wideM M) px Hn) ⟨b, 0, 0, 0, e⟩ [] = (px, 0) := by
  have hw := wideM_or M
  have hch : chK K = 1 ∨ chK K = 3 := by unfold chK; split <;> simp
  have hrl : ∀ y, y < Hn → ((px.drop (y * W)).take W).length = W := fun y hy => by
    rw [List.length_take, List.length_drop, hl]
    have : (y + 1) * W ≤ Hn * W := Nat.mul_le_mul_right _ hy
    rw [Nat.add_mul, Nat.one_mul, Nat.mul_comm Hn] at this
    omega
  have hrc : ∀ y, ∀ p ∈ (px.drop (y * W)).take W, Can (chK K) M p := fun y p hp => hc p (List.mem_of_mem_drop (List.mem_of_mem_take hp))
  have hst : 0 < strd K W (wideM M) := by
    unfold strd
    split
    · omega
    · exact Nat.mul_pos (Nat.mul_pos hW (by omega)) (by omega)
  have hrows : ∀ r ∈ wrRows K W (wideM M) px Hn, r.length = strd K W (wideM M) ∧ (K ≠ 4 → ∀ i, i < r.length / wideM M → smpAt (wideM M) r i ≤ M) := fun r hr => by
    obtain ⟨y, hy, rfl⟩ := List.mem_map.1 hr
    rw [List.mem_range] at hy
    refine ⟨row_len hw (hrl y hy) (hrc y), fun hK i hi => ?_⟩
    unfold rowB at hi ⊢
    rw [if_neg hK] at hi ⊢
    rw [enc_len hw] at hi
    have hi2 : i < (((px.drop (y * W)).take W).flatMap unpackS).length := by
      rcases hw with hw | hw <;> rw [hw] at hi <;> omega
    rw [enc_at hw _ i hi2]
    obtain ⟨p, hp, hx⟩ := List.mem_flatMap.1 (List.getElem_mem hi2)
    exact ((hrc y p hp).2.2 _ hx).2
  have hne : wrRows K W (wideM M) px Hn ≠ [] := fun e => by have := congrArg List.length e; simp [wrRows] at this; omega
  have h := rows_feed (K := K) (H := (Hn : Int)) (M := M) (W := W) hst _ hrows hne 0 e b [] hb (by simp [wrRows])
  unfold wrRaw
  rw [h]
  simp only [List.nil_append]
  congr 1
  have hmap : (wrRows K W (wideM M) px Hn).map (rowD K W (wideM M)) = (List.range Hn).map fun y => (px.drop (y * W)).take W := by
    unfold wrRows
    rw [List.map_map]
    refine List.map_congr_left fun y hy => ?_
    rw [List.mem_range] at hy
    exact row_back hw h4 (hrl y hy) (hrc y)
  rw [hmap]
  have key : ∀ n, n ≤ Hn → ((List.range n).map fun y => (px.drop (y * W)).take W).flatten = px.take (n * W) := by
    intro n
    induction n with
    | zero => simp
    | succ n ih =>
      intro hn
      rw [List.range_succ, List.map_append, List.flatten_append, ih (by omega), Nat.add_mul, Nat.one_mul, List.take_add]
      simp
  rw [key Hn (Nat.le_refl _), List.take_of_length_le (by rw [hl, Nat.mul_comm]; omega)]


def eightF (b : Int) (k j : Nat) : Value := .int .i64 (if j < k then b / 2 ^ (7 - j) % 2 else 0)
def eightK (b : Int) (k : Nat) : List Value := [eightF b k 0, eightF b k 1, eightF b k 2, eightF b k 3, eightF b k 4, eightF b k 5, eightF b k 6, eightF b k 7]
theorem eightK_set (b : Int) {k : Nat} (h : k < 8) : (eightK b k).set k (.int .i64 (b / 2 ^ (7 - k) % 2)) = eightK b (k + 1) := by
  obtain rfl | rfl | rfl | rfl | rfl | rfl | rfl | rfl : k = 0 ∨ k = 1 ∨ k = 2 ∨ k = 3 ∨ k = 4 ∨ k = 5 ∨ k = 6 ∨ k = 7 := by omega
  all_goals rfl
theorem eight_at (b : Int) {j : Nat} (h : j < 8) : (eightK b 8)[j]? = some (.int .i64 (b / 2 ^ (7 - j) % 2)) := by
  obtain rfl | rfl | rfl | rfl | rfl | rfl | rfl | rfl : j = 0 ∨ j = 1 ∨ j = 2 ∨ j = 3 ∨ j = 4 ∨ j = 5 ∨ j = 6 ∨ j = 7 := by omega
  all_goals rfl
theorem bitAt_at {bs : List Int} {k j : Nat} (hk : k < bs.length) (hj : j < 8) : bitAt bs (8 * k + j) = bs[k] / 2 ^ (7 - j) % 2 := by
  unfold bitAt
  rw [show (8 * k + j) / 8 = k by omega, show (8 * k + j) % 8 = j by omega, List.getElem?_eq_getElem hk]
  rfl
theorem ubits_len (bs : List Int) (n : Nat) : (ubits bs n).length = n := by simp [ubits]
theorem ubits_snoc (bs : List Int) (n : Nat) : ubits bs n ++ [bitAt bs n] = ubits bs (n + 1) := by simp [ubits, List.range_succ]
theorem two_pos (k : Nat) : (0 : Int) < 2 ^ k := by exact_mod_cast Nat.two_pow_pos k
structure NmX where
  (k : Nat) (m : List HP)
structure JmX where
  (j : Nat) (m : List HP)

end Go.Proofs.Ytpoahaadnbdgcaa
