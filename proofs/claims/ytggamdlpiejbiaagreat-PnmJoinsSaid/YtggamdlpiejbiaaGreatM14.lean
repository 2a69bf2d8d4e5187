/- Walks and plain laws, a part of the proof of PnmJoins: every input that the law's guards let in, no condition beside. -/
import Derived.Test.YtggamdlpiejbiaaGreatM13
namespace Go.Proofs.YtggamdlpiejbiaaGreat
open Go.RowKit Go.Shelf

def Zt (x : Int) : Prop := x = 0 ∨ x = 1
/-- Bits joined, the highest first: the first one weighs w. -/
def bw : List Int → Nat → Int
  | [], _ => 0
  | x :: xs, m => x * 2 ^ m + bw xs (m - 1)
theorem bw_bd : ∀ (xs : List Int) (m : Nat), xs.length ≤ m + 1 → (∀ x ∈ xs, Zt x) → 0 ≤ bw xs m ∧ bw xs m < 2 ^ (m + 1)
  | [], m, _, _ => ⟨by simp [bw], by simp only [bw]; exact_mod_cast Nat.two_pow_pos (m + 1)⟩
  | x :: xs, m, hl, hb => by
    have hx := hb x (by simp)
    have h2 : (0 : Int) < 2 ^ m := by exact_mod_cast Nat.two_pow_pos m
    rw [Int.pow_succ]
    cases m with
    | zero =>
      have : xs = [] := List.eq_nil_of_length_eq_zero (by simp only [List.length_cons] at hl; omega)
      subst this
      unfold Zt at hx
      simp only [bw]; rcases hx with rfl | rfl <;> simp
    | succ m =>
      have ih := bw_bd xs m (by simp at hl; omega) fun y hy => hb y (by simp [hy])
      unfold Zt at hx
      simp only [bw, Nat.add_sub_cancel]
      rcases hx with rfl | rfl <;> omega
theorem bw_snoc (b : Int) : ∀ (xs : List Int) (m : Nat), xs.length ≤ m → bw (xs ++ [b]) m = bw xs m + b * 2 ^ (m - xs.length)
  | [], m, _ => by simp [bw]
  | x :: xs, m, h => by
    simp only [List.length_cons] at h
    rw [List.cons_append, bw, bw, bw_snoc b xs (m - 1) (by omega), List.length_cons, show m - 1 - xs.length = m - (xs.length + 1) by omega]
    omega
/-- What stands above a place is a multiple. -/
theorem bw_mul : ∀ (xs : List Int) (m : Nat), xs.length ≤ m + 1 → ∃ q, bw xs m = q * 2 ^ (m + 1 - xs.length)
  | [], m, _ => ⟨0, by simp [bw]⟩
  | x :: xs, m, h => by
    simp only [List.length_cons] at h
    cases m with
    | zero =>
      have : xs = [] := List.eq_nil_of_length_eq_zero (by omega)
      subst this
      exact ⟨x, by simp [bw]⟩
    | succ m =>
      obtain ⟨q, hq⟩ := bw_mul xs m (by omega)
      refine ⟨x * 2 ^ xs.length + q, ?_⟩
      rw [bw, Nat.add_sub_cancel, hq, Int.add_mul, Int.mul_assoc, ← Int.pow_add]
      rw [List.length_cons, show xs.length + (m + 1 + 1 - (xs.length + 1)) = m + 1 by omega, show m + 1 + 1 - (xs.length + 1) = m + 1 - xs.length by omega]
theorem bw_bit : ∀ (xs : List Int) (m t : Nat) (ht : t < xs.length), xs.length ≤ m + 1 → (∀ x ∈ xs, Zt x) → bw xs m / 2 ^ (m - t) % 2 = xs[t]
  | x :: xs, m, t, ht, hl, hb => by
    have hx := hb x (by simp)
    simp only [List.length_cons] at hl
    cases t with
    | zero =>
      simp only [Nat.sub_zero, List.getElem_cons_zero, bw]
      have h2 : (0 : Int) < 2 ^ m := by exact_mod_cast Nat.two_pow_pos m
      have hr : 0 ≤ bw xs (m - 1) ∧ bw xs (m - 1) < 2 ^ m := by
        cases m with
        | zero =>
          have : xs = [] := List.eq_nil_of_length_eq_zero (by omega)
          subst this
          simp [bw]
        | succ m => exact bw_bd xs m (by omega) fun y hy => hb y (by simp [hy])
      rw [Int.add_comm, Int.add_mul_ediv_right _ _ (by omega), Int.ediv_eq_zero_of_lt hr.1 hr.2]
      unfold Zt at hx
      rcases hx with rfl | rfl <;> rfl
    | succ t =>
      simp only [List.length_cons] at ht
      cases m with
      | zero => omega
      | succ m =>
        have ih := bw_bit xs m t (by omega) (by omega) fun y hy => hb y (by simp [hy])
        simp only [List.getElem_cons_succ, bw, Nat.add_sub_cancel]
        rw [show m + 1 - (t + 1) = m - t by omega, ← ih]
        have e : (2 : Int) ^ (m + 1) = 2 * 2 ^ t * 2 ^ (m - t) := by
          rw [Int.mul_assoc, ← Int.pow_add, show t + (m - t) = m by omega, Int.pow_succ, Int.mul_comm]
        have h2 : (2 : Int) ^ (m - t) ≠ 0 := by have := Nat.two_pow_pos (m - t); exact_mod_cast Nat.ne_of_gt this
        rw [e, ← Int.mul_assoc, Int.add_comm, Int.add_mul_ediv_right _ _ h2]
        rw [show x * (2 * 2 ^ t) = 2 * (x * 2 ^ t) from by rw [← Int.mul_assoc, Int.mul_comm x 2, Int.mul_assoc]]
        omega
def byteOf (xs : List Int) : Int := bw xs 7
def XT (l : List Int) (j : Nat) : Int := byteOf ((l.drop (8 * j)).take 8)
def Yn (l : List Int) : List Int := (List.range ((l.length + 7) / 8)).map (XT l)
def bitAt (bs : List Int) (i : Nat) : Int := (bs[i / 8]?.getD 0) / 2 ^ (7 - i % 8) % 2
def Z5 (bs : List Int) (w : Nat) : List Int := (List.range w).map (bitAt bs)
theorem YS (l : List Int) : (Yn l).length = (l.length + 7) / 8 := by simp [Yn]
theorem byteAt_bd {l : List Int} (h : ∀ x ∈ l, Zt x) (j : Nat) : 0 ≤ XT l j ∧ XT l j ≤ 255 := by
  have := bw_bd ((l.drop (8 * j)).take 8) 7 (by rw [List.length_take]; omega) fun x hx => h x (List.mem_of_mem_drop (List.mem_of_mem_take hx))
  unfold XT byteOf
  omega
theorem packB_bd {l : List Int} (h : ∀ x ∈ l, Zt x) : ∀ b ∈ Yn l, 0 ≤ b ∧ b ≤ 255 := by
  intro b hb
  obtain ⟨j, _, rfl⟩ := List.mem_map.1 hb
  exact byteAt_bd h j
theorem ubits_packB {l : List Int} (h : ∀ x ∈ l, Zt x) : Z5 (Yn l) l.length = l := by
  apply List.ext_getElem
  · simp [Z5]
  · intro i h1 h2
    simp only [Z5, List.getElem_map, List.getElem_range, bitAt]
    have hj : i / 8 < (Yn l).length := by rw [YS]; omega
    rw [List.getElem?_eq_getElem hj]
    simp only [Yn, List.getElem_map, List.getElem_range, Option.getD_some, XT, byteOf]
    have hl : i % 8 < ((l.drop (8 * (i / 8))).take 8).length := by
      rw [List.length_take, List.length_drop]
      omega
    rw [bw_bit _ 7 (i % 8) hl (by rw [List.length_take]; omega) (fun x hx => h x (List.mem_of_mem_drop (List.mem_of_mem_take hx)))]
    simp only [List.getElem_take, List.getElem_drop]
    congr 1
    omega
theorem byte_seg {l : List Int} {i : Nat} (hi : i < l.length) : ((l.take (i + 1)).drop (8 * (i / 8))).take 8 = ((l.take i).drop (8 * (i / 8))).take 8 ++ [l[i]] := by
  have h1 : ((l.take i).drop (8 * (i / 8))).length = i % 8 := by rw [List.length_drop, List.length_take]; omega
  rw [Xd l hi, List.drop_append_of_le_length (by rw [List.length_take]; omega), List.take_append, h1]
  rw [show 8 - i % 8 = (7 - i % 8) + 1 by omega, List.take_succ_cons, List.take_nil]
theorem byte_segl {l : List Int} {i : Nat} (hi : i < l.length) : (((l.take i).drop (8 * (i / 8))).take 8).length = i % 8 := by rw [List.length_take, List.length_drop, List.length_take]; omega
theorem byteAt_step {l : List Int} {i : Nat} (hi : i < l.length) : XT (l.take (i + 1)) (i / 8) = XT (l.take i) (i / 8) + l[i] * 2 ^ (7 - i % 8) := by
  unfold XT byteOf
  rw [byte_seg hi, bw_snoc _ _ _ (by rw [byte_segl hi]; omega), byte_segl hi]
theorem byteAt_mul {l : List Int} {i : Nat} (hi : i < l.length) : ∃ q, XT (l.take i) (i / 8) = q * 2 ^ (7 - i % 8 + 1) := by
  obtain ⟨q, hq⟩ := bw_mul (((l.take i).drop (8 * (i / 8))).take 8) 7 (by rw [byte_segl hi]; omega)
  rw [byte_segl hi, show 7 + 1 - i % 8 = 7 - i % 8 + 1 by omega] at hq
  exact ⟨q, hq⟩
theorem byteAt_other {l : List Int} {i j : Nat} (hi : i < l.length) (h : j ≠ i / 8) : XT (l.take (i + 1)) j = XT (l.take i) j := by
  unfold XT
  congr 1
  rw [Xd l hi]
  by_cases h1 : 8 * j ≤ i
  · rw [List.drop_append_of_le_length (by rw [List.length_take]; omega), List.take_append_of_le_length (by rw [List.length_drop, List.length_take]; omega)]
  · rw [List.drop_eq_nil_of_le (by rw [List.length_append, List.length_take]; simp; omega), List.drop_eq_nil_of_le (by rw [List.length_take]; omega)]
def outB (l : List Int) (n i : Nat) : List Int := (List.range n).map (XT (l.take i))
theorem outB_len (l : List Int) (n i : Nat) : (outB l n i).length = n := by simp [outB]
theorem outB_zero (l : List Int) (n : Nat) : outB l n 0 = List.replicate n 0 := by
  unfold outB
  apply List.ext_getElem
  · simp
  · intro k h1 h2
    simp [XT, byteOf, bw]
theorem outB_all (l : List Int) : outB l ((l.length + 7) / 8) l.length = Yn l := by unfold outB Yn; rw [List.take_length]
theorem outB_step {l : List Int} {n i : Nat} (hi : i < l.length) (_hn : i / 8 < n) : (outB l n i).set (i / 8) (XT (l.take i) (i / 8) + l[i] * 2 ^ (7 - i % 8)) = outB l n (i + 1) := by
  apply List.ext_getElem
  · simp [outB]
  · intro k h1 h2
    rw [List.getElem_set]
    simp only [outB, List.getElem_map, List.getElem_range]
    split
    · rename_i e; rw [← e, byteAt_step hi]
    · rename_i e; rw [byteAt_other hi (Ne.symm e)]
theorem or_bits {q b : Int} {s : Nat} (hq : 0 ≤ q) (hb : Zt b) : (((q * 2 ^ (s + 1)).toNat ||| (b * 2 ^ s).toNat : Nat) : Int) = q * 2 ^ (s + 1) + b * 2 ^ s := by
  obtain ⟨a, rfl⟩ := Int.eq_ofNat_of_zero_le hq
  have e : (((a : Int) * 2 ^ (s + 1)).toNat) = a <<< (s + 1) := by
    rw [Nat.shiftLeft_eq]; exact_mod_cast Int.toNat_natCast (a * 2 ^ (s + 1))
  rw [e]
  unfold Zt at hb
  have hlt : 2 ^ s < 2 ^ (s + 1) := Nat.pow_lt_pow_right (by omega) (by omega)
  rcases hb with rfl | rfl
  · simp [Nat.shiftLeft_eq]
  · have e2 : ((1 : Int) * 2 ^ s).toNat = 2 ^ s := by rw [Int.one_mul]; exact_mod_cast Int.toNat_natCast (2 ^ s)
    rw [e2, ← Nat.shiftLeft_add_eq_or_of_lt hlt, Nat.shiftLeft_eq]
    push_cast
    omega
def Qg (M : Int) : Nat := if 255 < M then 2 else 1
theorem Q2 (M : Int) : Qg M = 1 ∨ Qg M = 2 := by unfold Qg; split <;> simp
def Ym (w : Nat) (x : Int) : List Int := if w = 1 then [x] else [x / 256, x % 256]
def Xu (w : Nat) (b : List Int) (i : Nat) : Int := if w = 1 then b[i]?.getD 0 else (b[2 * i]?.getD 0) * 256 + (b[2 * i + 1]?.getD 0)
def Zw (w : Nat) (b : List Int) : List Int := (List.range (b.length / w)).map (Xu w b)
theorem Ve {w : Nat} (hw : w = 1 ∨ w = 2) (xs : List Int) : (xs.flatMap (Ym w)).length = xs.length * w := by
  induction xs with
  | nil => simp
  | cons x xs ih =>
    rw [List.flatMap_cons, List.length_append, ih, List.length_cons, Nat.add_mul]
    rcases hw with rfl | rfl <;> simp [Ym] <;> omega
theorem enc_at {w : Nat} (hw : w = 1 ∨ w = 2) : ∀ (xs : List Int) (i : Nat) (hi : i < xs.length), Xu w (xs.flatMap (Ym w)) i = xs[i]
  | x :: xs, 0, _ => by
    rcases hw with rfl | rfl
    · simp [Xu, Ym]
    · simp [Xu, Ym]; omega
  | x :: xs, i + 1, hi => by
    have ih := enc_at hw xs i (by simpa using hi)
    rw [List.getElem_cons_succ, ← ih]
    rcases hw with rfl | rfl
    · simp [Xu, Ym]
    · simp only [Xu, Ym, List.flatMap_cons]
      rw [show 2 * (i + 1) = 2 * i + 2 by omega, show 2 * i + 2 + 1 = (2 * i + 1) + 2 by omega]
      simp
theorem smps_enc {w : Nat} (hw : w = 1 ∨ w = 2) (xs : List Int) : Zw w (xs.flatMap (Ym w)) = xs := by
  apply List.ext_getElem
  · simp only [Zw, List.length_map, List.length_range, Ve hw]
    rcases hw with rfl | rfl <;> omega
  · intro i h1 h2
    simp only [Zw, List.getElem_map, List.getElem_range]
    exact enc_at hw xs i h2
theorem enc_bd {w : Nat} {xs : List Int} (h : ∀ x ∈ xs, 0 ≤ x ∧ x ≤ 65535) (h1 : w = 1 → ∀ x ∈ xs, x ≤ 255) : ∀ b ∈ xs.flatMap (Ym w), 0 ≤ b ∧ b ≤ 255 := by
  intro b hb
  obtain ⟨x, hx, hb⟩ := List.mem_flatMap.1 hb
  have := h x hx
  unfold Ym at hb
  split at hb
  · rename_i hw; have := h1 hw x hx; simp at hb; omega
  · simp at hb; omega
def Y1 (ch : Nat) (l : List Int) : List Int := (List.range (l.length / ch)).map fun k => (Xx ((l.drop (k * ch)).take ch)).1
theorem Ze {ch : Nat} (px : List Int) (h : ∀ p ∈ px, (Qn p).length = ch) : (px.flatMap Qn).length = px.length * ch := by
  induction px with
  | nil => simp
  | cons p px ih =>
    rw [List.flatMap_cons, List.length_append, ih fun q hq => h q (by simp [hq]), h p (by simp), List.length_cons, Nat.add_mul]
    omega
theorem flat_at {ch : Nat} : ∀ (px : List Int) (_ : ∀ p ∈ px, (Qn p).length = ch) (k : Nat) (hk : k < px.length), ((px.flatMap Qn).drop (k * ch)).take ch = Qn px[k]
  | p :: px, h, 0, _ => by
    rw [List.flatMap_cons, Nat.zero_mul, List.drop_zero, List.take_append_of_le_length (by rw [h p (by simp)]; omega), List.take_of_length_le (by rw [h p (by simp)]; omega)]
    rfl
  | p :: px, h, k + 1, hk => by
    have ih := flat_at px (fun q hq => h q (by simp [hq])) k (by simpa using hk)
    rw [List.flatMap_cons, List.getElem_cons_succ, ← ih, Nat.add_mul, Nat.one_mul, Nat.add_comm (k * ch), ← List.drop_drop, List.drop_append_of_le_length (by rw [h p (by simp)]; omega), show (Qn p).drop ch = [] from List.drop_of_length_le (by rw [h p (by simp)]; omega), List.nil_append]
theorem chunk_flat {ch : Nat} {M : Int} (h0 : 0 < ch) (px : List Int) (h : ∀ p ∈ px, Can (ch : Int) M p) : Y1 ch (px.flatMap Qn) = px := by
  have hl : ∀ p ∈ px, (Qn p).length = ch := fun p hp => by exact_mod_cast (h p hp).1
  apply List.ext_getElem
  · simp only [Y1, List.length_map, List.length_range, Ze px hl]
    exact Nat.mul_div_cancel _ h0
  · intro k h1 h2
    simp only [Y1, List.getElem_map, List.getElem_range, flat_at px hl k h2]
    exact (h _ (List.getElem_mem h2)).2.1
def Y5 (K : Int) (w : Nat) (row : List Int) : List Int := if K = 4 then Yn row else row.flatMap (Ym w)
def Yw (K : Int) (W : Nat) (w : Nat) (b : List Int) : List Int := Y1 (QW K).toNat (if K = 4 then Z5 b W else Zw w b)
structure RW where
  (b : List Int) (n : Nat) (rows last e : Int)
/-- A raw raster's reader, told a byte. -/
def Xj (K : Int) (W : Nat) (H M : Int) (s : RW) (c : Int) : RW × List Int :=
  if s.last ≠ 0 then (s, []) else
  if K ≠ 4 ∧ (s.n + 1) % Qg M = 0 ∧ Xu (Qg M) (s.b.set s.n c) ((s.n + 1) / Qg M - 1) > M then (⟨s.b.set s.n c, s.n + 1, s.rows, 2, 5⟩, []) else
  if s.n + 1 < s.b.length then (⟨s.b.set s.n c, s.n + 1, s.rows, 0, s.e⟩, []) else
  (⟨s.b.set s.n c, 0, s.rows + 1, if s.rows + 1 = H then 1 else 0, s.e⟩, Yw K W (Qg M) (s.b.set s.n c))
def Zo (K : Int) (W : Nat) (H M : Int) : List Int → RW → List Int → List Int × Int
  | [], _, _ => ([], 6)
  | c :: bs, s, acc => if (Xj K W H M s c).1.last = 1 then (acc ++ (Xj K W H M s c).2, 0) else if (Xj K W H M s c).1.last = 2 then ([], (Xj K W H M s c).1.e) else Zo K W H M bs (Xj K W H M s c).1 (acc ++ (Xj K W H M s c).2)
/-- One row's bytes. -/
theorem row_feed {K H M : Int} {W : Nat} {rb : List Int} (hok : K ≠ 4 → ∀ i, i < rb.length / Qg M → Xu (Qg M) rb i ≤ M) (rows e : Int) (bs acc : List Int) : ∀ (k : Nat) (b : List Int), b.length = rb.length → k < rb.length → b.take k = rb.take k →
    Zo K W H M (rb.drop k ++ bs) ⟨b, k, rows, 0, e⟩ acc = if rows + 1 = H then (acc ++ Yw K W (Qg M) rb, 0) else Zo K W H M bs ⟨rb, 0, rows + 1, 0, e⟩ (acc ++ Yw K W (Qg M) rb) := by
  intro k
  generalize hm : rb.length - k = m
  induction m generalizing k with
  | zero => intro b _ hk _; omega
  | succ m ih =>
    intro b hb hk ht
    rw [List.drop_eq_getElem_cons hk, List.cons_append, Zo]
    have hset : (b.set k rb[k]).take (k + 1) = rb.take (k + 1) := by
      rw [List.take_set, List.take_succ_eq_append_getElem (by omega), List.take_succ_eq_append_getElem hk, ht]
      rw [List.set_append_right _ _ (by rw [List.length_take]; omega)]
      simp [List.length_take, Nat.min_eq_left (Nat.le_of_lt hk)]
    have hbad : ¬ (K ≠ 4 ∧ (k + 1) % Qg M = 0 ∧ Xu (Qg M) (b.set k rb[k]) ((k + 1) / Qg M - 1) > M) := by
      rintro ⟨h1, h2, h3⟩
      have hw := Q2 M
      have hi : (k + 1) / Qg M - 1 < rb.length / Qg M := by
        rcases hw with hw | hw <;> rw [hw] at h2 ⊢ <;> omega
      have h4 := hok h1 _ hi
      have hq : ∀ j, j < k + 1 → (b.set k rb[k])[j]? = rb[j]? := fun j hj => by
        have := congrArg (fun l => l[j]?) hset
        simpa [List.getElem?_take, hj] using this
      have h5 : Xu (Qg M) (b.set k rb[k]) ((k + 1) / Qg M - 1) = Xu (Qg M) rb ((k + 1) / Qg M - 1) := by
        unfold Xu
        rcases hw with hw | hw
        · rw [hw] at h2 ⊢
          rw [if_pos rfl, if_pos rfl, hq _ (by omega)]
        · rw [hw] at h2 ⊢
          rw [if_neg (by omega), if_neg (by omega), hq _ (by omega), hq _ (by omega)]
      omega
    have hlen : (b.set k rb[k]).length = rb.length := by rw [List.length_set, hb]
    by_cases hlast : k + 1 < rb.length
    · have hp : Xj K W H M ⟨b, k, rows, 0, e⟩ rb[k] = (⟨b.set k rb[k], k + 1, rows, 0, e⟩, []) := by
        unfold Xj
        rw [if_neg (by simp), if_neg hbad, if_pos (by simpa [hb] using hlast)]
      rw [hp]
      simp only [List.append_nil]
      rw [if_neg (by decide), if_neg (by decide)]
      exact ih (k + 1) (by omega) _ hlen hlast hset
    · have hall : b.set k rb[k] = rb := by
        have h1 : (b.set k rb[k]).take (k + 1) = b.set k rb[k] := List.take_of_length_le (by omega)
        have h2 : rb.take (k + 1) = rb := List.take_of_length_le (by omega)
        rw [← h1, hset, h2]
      have hp : Xj K W H M ⟨b, k, rows, 0, e⟩ rb[k] = (⟨rb, 0, rows + 1, if rows + 1 = H then 1 else 0, e⟩, Yw K W (Qg M) rb) := by
        unfold Xj
        rw [if_neg (by simp), if_neg hbad, if_neg (by simp [hb]; omega)]
        simp only [hall]
      rw [hp, show rb.drop (k + 1) = [] from List.drop_of_length_le (by omega), List.nil_append]
      by_cases hh : rows + 1 = H
      · simp [hh]
      · simp [hh]
/-- All rows' bytes. -/
theorem rows_feed {K H M : Int} {W st : Nat} (hst : 0 < st) : ∀ (rs : List (List Int)) (_ : ∀ r ∈ rs, r.length = st ∧ (K ≠ 4 → ∀ i, i < r.length / Qg M → Xu (Qg M) r i ≤ M)) (_ : rs ≠ []) (rows e : Int) (b acc : List Int), b.length = st → rows + (rs.length : Int) = H →
    Zo K W H M rs.flatten ⟨b, 0, rows, 0, e⟩ acc = (acc ++ (rs.map (Yw K W (Qg M))).flatten, 0)
  | [], _, h, _, _, _, _, _, _ => absurd rfl h
  | r :: rs, hr, _, rows, e, b, acc, hb, hH => by
    have h1 := hr r (by simp)
    have h2 := row_feed (K := K) (H := H) (M := M) (W := W) (rb := r) h1.2 rows e rs.flatten acc 0 b (by omega) (by omega) (by simp)
    rw [List.drop_zero] at h2
    rw [List.flatten_cons, h2]
    simp only [List.length_cons] at hH
    push_cast at hH
    cases rs with
    | nil =>
      simp only [List.length_nil] at hH
      rw [if_pos (by omega)]; simp
    | cons r2 rs =>
      simp only [List.length_cons] at hH
      push_cast at hH
      rw [if_neg (by omega), rows_feed hst (r2 :: rs) (fun q hq => hr q (by simp [hq])) (by simp) (rows + 1) e r _ h1.1 (by simp only [List.length_cons]; push_cast; omega)]
      simp
/-- A raster's bytes: row by row. -/
def ZI (K : Int) (W w : Nat) (px : List Int) (n : Nat) : List (List Int) := (List.range n).map fun y => Y5 K w (((px.drop (y * W)).take W).flatMap Qn)
def Xg (K : Int) (W w : Nat) (px : List Int) (n : Nat) : List Int := (ZI K W w px n).flatten
def QF (K : Int) (W w : Nat) : Nat := if K = 4 then (W + 7) / 8 else W * (QW K).toNat * w
theorem row_len {K M : Int} {W w : Nat} (hw : w = 1 ∨ w = 2) {row : List Int} (hr : row.length = W) (hc : ∀ p ∈ row, Can (QW K) M p) : (Y5 K w (row.flatMap Qn)).length = QF K W w := by
  have hl : ∀ p ∈ row, (Qn p).length = (QW K).toNat := fun p hp => by have := (hc p hp).1; omega
  unfold Y5 QF
  split
  · rename_i h4
    have e1 : (QW K).toNat = 1 := by rw [h4]; rfl
    rw [YS, Ze row hl, e1, Nat.mul_one, hr]
  · rw [Ve hw, Ze row hl, hr]
theorem row_back {K M : Int} {W w : Nat} (hw : w = 1 ∨ w = 2) (h4 : K = 4 → M = 1) {row : List Int} (hr : row.length = W) (hc : ∀ p ∈ row, Can (QW K) M p) : Yw K W w (Y5 K w (row.flatMap Qn)) = row := by
  have hch : QW K = 1 ∨ QW K = 3 := by unfold QW; split <;> simp
  have hl : ∀ p ∈ row, (Qn p).length = (QW K).toNat := fun p hp => by have := (hc p hp).1; omega
  have hcast : (((QW K).toNat : Nat) : Int) = QW K := by omega
  have hcf : Y1 (QW K).toNat (row.flatMap Qn) = row := chunk_flat (M := M) (by omega) row (fun p hp => by rw [hcast]; exact hc p hp)
  unfold Yw Y5
  split
  · rename_i hK
    have e1 : (QW K).toNat = 1 := by rw [hK]; rfl
    have hlen : (row.flatMap Qn).length = W := by rw [Ze row hl, e1, Nat.mul_one, hr]
    have hb : ∀ x ∈ row.flatMap Qn, Zt x := fun x hx => by
      obtain ⟨p, hp, hx⟩ := List.mem_flatMap.1 hx
      have := (hc p hp).2.2 x hx
      have := h4 hK
      unfold Zt; omega
    have := ubits_packB hb
    rw [hlen] at this
    rw [this, hcf]
  · rw [smps_enc hw, hcf]
theorem raw_back {K M : Int} {W Hn : Nat} (hW : 0 < W) (hH : 0 < Hn) (h4 : K = 4 → M = 1) {px : List Int} (hl : px.length = W * Hn) (hc : ∀ p ∈ px, Can (QW K) M p) (b : List Int) (hb : b.length = QF K W (Qg M)) (e : Int) :
    Zo K W (Hn : Int) M (Xg K W (Qg M) px Hn) ⟨b, 0, 0, 0, e⟩ [] = (px, 0) := by
  have hw := Q2 M
  have hch : QW K = 1 ∨ QW K = 3 := by unfold QW; split <;> simp
  have hrl : ∀ y, y < Hn → ((px.drop (y * W)).take W).length = W := fun y hy => by
    rw [List.length_take, List.length_drop, hl]
    have : (y + 1) * W ≤ Hn * W := Nat.mul_le_mul_right _ hy
    rw [Nat.add_mul, Nat.one_mul, Nat.mul_comm Hn] at this
    omega
  have hrc : ∀ y, ∀ p ∈ (px.drop (y * W)).take W, Can (QW K) M p := fun y p hp => hc p (List.mem_of_mem_drop (List.mem_of_mem_take hp))
  have hst : 0 < QF K W (Qg M) := by
    unfold QF
    split
    · omega
    · exact Nat.mul_pos (Nat.mul_pos hW (by omega)) (by omega)
  have hrows : ∀ r ∈ ZI K W (Qg M) px Hn, r.length = QF K W (Qg M) ∧ (K ≠ 4 → ∀ i, i < r.length / Qg M → Xu (Qg M) r i ≤ M) := fun r hr => by
    obtain ⟨y, hy, rfl⟩ := List.mem_map.1 hr
    rw [List.mem_range] at hy
    refine ⟨row_len hw (hrl y hy) (hrc y), fun hK i hi => ?_⟩
    unfold Y5 at hi ⊢
    rw [if_neg hK] at hi ⊢
    rw [Ve hw] at hi
    have hi2 : i < (((px.drop (y * W)).take W).flatMap Qn).length := by
      rcases hw with hw | hw <;> rw [hw] at hi <;> omega
    rw [enc_at hw _ i hi2]
    obtain ⟨p, hp, hx⟩ := List.mem_flatMap.1 (List.getElem_mem hi2)
    exact ((hrc y p hp).2.2 _ hx).2
  have hne : ZI K W (Qg M) px Hn ≠ [] := fun e => by have := congrArg List.length e; simp [ZI] at this; omega
  have h := rows_feed (K := K) (H := (Hn : Int)) (M := M) (W := W) hst _ hrows hne 0 e b [] hb (by simp [ZI])
  unfold Xg
  rw [h]
  simp only [List.nil_append]
  congr 1
  have hmap : (ZI K W (Qg M) px Hn).map (Yw K W (Qg M)) = (List.range Hn).map fun y => (px.drop (y * W)).take W := by
    unfold ZI
    rw [List.map_map]
    refine List.map_congr_left fun y hy => ?_
    rw [List.mem_range] at hy
    exact row_back hw h4 (hrl y hy) (hrc y)
  rw [hmap]
  have key : ∀ n, n ≤ Hn → ((List.range n).map fun y => (px.drop (y * W)).take W).flatten = px.take (n * W) := by
    intro n
    induction n with
    | zero => simp
    | succ n ih =>
      intro hn
      rw [List.range_succ, List.map_append, List.flatten_append, ih (by omega), Nat.add_mul, Nat.one_mul, List.take_add]
      simp
  rw [key Hn (Nat.le_refl _), List.take_of_length_le (by rw [hl, Nat.mul_comm]; omega)]


def eightF (b : Int) (k j : Nat) : Value := .int .i64 (if j < k then b / 2 ^ (7 - j) % 2 else 0)
def eightK (b : Int) (k : Nat) : List Value := [eightF b k 0, eightF b k 1, eightF b k 2, eightF b k 3, eightF b k 4, eightF b k 5, eightF b k 6, eightF b k 7]
theorem eightK_set (b : Int) {k : Nat} (h : k < 8) : (eightK b k).set k (.int .i64 (b / 2 ^ (7 - k) % 2)) = eightK b (k + 1) := by
  obtain rfl | rfl | rfl | rfl | rfl | rfl | rfl | rfl : k = 0 ∨ k = 1 ∨ k = 2 ∨ k = 3 ∨ k = 4 ∨ k = 5 ∨ k = 6 ∨ k = 7 := by omega
  all_goals rfl
theorem eight_at (b : Int) {j : Nat} (h : j < 8) : (eightK b 8)[j]? = some (.int .i64 (b / 2 ^ (7 - j) % 2)) := by
  obtain rfl | rfl | rfl | rfl | rfl | rfl | rfl | rfl : j = 0 ∨ j = 1 ∨ j = 2 ∨ j = 3 ∨ j = 4 ∨ j = 5 ∨ j = 6 ∨ j = 7 := by omega
  all_goals rfl
theorem bitAt_at {bs : List Int} {k j : Nat} (hk : k < bs.length) (hj : j < 8) : bitAt bs (8 * k + j) = bs[k] / 2 ^ (7 - j) % 2 := by
  unfold bitAt
  rw [show (8 * k + j) / 8 = k by omega, show (8 * k + j) % 8 = j by omega, List.getElem?_eq_getElem hk]
  rfl
theorem ubits_len (bs : List Int) (n : Nat) : (Z5 bs n).length = n := by simp [Z5]
theorem ubits_snoc (bs : List Int) (n : Nat) : Z5 bs n ++ [bitAt bs n] = Z5 bs (n + 1) := by simp [Z5, List.range_succ]
theorem two_pos (k : Nat) : (0 : Int) < 2 ^ k := by exact_mod_cast Nat.two_pow_pos k
structure NmX where
  (k : Nat) (m : List HP)
structure JmX where
  (j : Nat) (m : List HP)

end Go.Proofs.YtggamdlpiejbiaaGreat
namespace Go.Proofs.YtggamdlpiejbiaaGreat
open Go.RowKit Go.Shelf

theorem sized_spec (W : Int) : Fn Tryz.prog 181 #[.int .i64 W] [] (fun v l => v = .bool (decide (1 ≤ W ∧ W ≤ 4096)) ∧ l = []) := by
 refine Qk (vs := [.int .i64 W]) Tryz.func181 rfl Tryz.ntmps181 rfl (Qb (Qa (Qe rfl rfl (WpL.nil (Qb (Qa (Qc rfl rfl (s_ge rfl rfl rfl (Qc rfl rfl (QK rfl rfl rfl (fun hg1 => ?_) (fun hg1 => ?_)))))))))))
 ·have hg1 := of_decide_eq_true hg1
  refine Qc rfl rfl (Qf rfl rfl (s_le rfl rfl rfl (Qt rfl rfl rfl (Qe rfl rfl (WpL.nil (Qi ?_))))))
  apply RetQ.mk
  ·exact (Res.one rfl rfl)
  ·exact ⟨congrArg Value.bool (by exact dd (by omega)), rfl⟩
  ·exact Ent.refl _
 ·have hg1 := of_decide_eq_false hg1
  refine Qd rfl rfl rfl (by decide) (Qs rfl rfl rfl (Qe rfl rfl (WpL.nil (Qi ?_))))
  apply RetQ.mk
  ·exact (Res.one rfl rfl)
  ·exact ⟨congrArg Value.bool (by exact df (by omega)), rfl⟩
  ·exact Ent.refl _

theorem Bytes_spec (W : Int) (h : 1 ≤ W ∧ W ≤ 4096) : Fn Tryz.prog 182 #[.int .i64 W] [] (fun v l => v = .int .i64 ((W + 7) / 8) ∧ l = []) := by
 refine Qk (vs := [.int .i64 W]) Tryz.func182 rfl Tryz.ntmps182 rfl (Qb (Qa (Qe rfl rfl (WpL.nil (Qb (Qb (Qa (Qc rfl rfl (Qh rfl rfl (by repeat' constructor) (sized_spec _) ?_)))))))))
 rintro _ _ ⟨rfl, rfl⟩
 simp only [Qr]
 refine XN rfl rfl (WpL.nil (Qz rfl (fun hn => hn h) ?_))
 refine Wp.skip (Qb (Qa (Qc rfl rfl (QD rfl rfl rfl (Qu (by omega) (by omega)) ?_))))
 refine ZQ rfl rfl rfl (Qu (by omega) (by omega)) ?_
 refine ZG rfl rfl rfl (by omega) (by omega) (Qu (by omega) (by omega)) ?_
 refine Qe rfl rfl (WpL.nil (Qi ?_))
 apply RetQ.mk
 ·exact (Res.one rfl rfl)
 ·exact ⟨by rw [show W + 8 - 1 = W + 7 by omega], rfl⟩
 ·exact Ent.refl _

theorem eighth_spec (b : Int) (hb0 : 0 ≤ b) (hb1 : b ≤ 255) : Fn Tryz.prog 209 #[.int .u8 b] [] (fun v l => v = .agg (eightK b 8).toArray ∧ l = []) := by
 refine Qk (vs := [.int .u8 b]) Tryz.func209 rfl Tryz.ntmps209 rfl (Qb (Qa (YE rfl ?_)))
 intro g1
 refine WpL.nil (Qb (Qa (YE rfl ?_)))
 intro g2
 refine WpL.nil (Qb (Qb (Qa (Qc rfl rfl (WpL.nil (Wp.block ?_))))))
 refine Wp.loopD (σ := Nat) (fun k => k ≤ 8) [4, 5, 6, 7, 8, 9, 10, 11, 12, 13, 14, 15, 16] (fun k => [(5, .int .i64 (k : Int))]) (fun k => [QA g2 (eightK b k) 271, QA g1 (eightK b 0) 271]) (fun k => 8 - k) 0 ?_ (by repeat (first | exact FrLe.nil | refine FrLe.cons rfl ?_)) ?_ ?_
 ·omega
 ·exact Ent.refl _
 ·rintro k hk
  refine Qb (Qa (Q7 rfl rfl rfl (WpL.nil (Qb (Ql rfl (fun h1 => ?_) (fun h1 => ?_))))))
  ·have hlt : k < 8 := by omega
   have hp := two_pos (7 - k)
   have hq0 : 0 ≤ b / 2 ^ (7 - k) := Int.ediv_nonneg hb0 (by omega)
   have hq1 : b / 2 ^ (7 - k) ≤ 255 := Int.le_trans (Int.ediv_le_self _ hb0) hb1
   refine Wp.skip (Qb (Wp.block ?_))
   refine Qb (Qa (Qc rfl rfl (Qe rfl rfl (WpL.nil (Qa (Qc rfl rfl (Qc rfl rfl (Qc rfl rfl (ZQ rfl rfl rfl (Qu (by omega) (by omega)) ?_)))))))))
   refine s_shr (2 ^ (7 - k)) rfl rfl rfl ⟨by omega, by simp only [IntKind.bits]; omega, by rw [show (7 - (k : Int)).toNat = 7 - k by omega]⟩ hp ?_
   refine s_and 2 1 rfl rfl rfl (by decide) hq0 (by simp only [IntKind.bits]; omega) (w_u8 (by omega) (by omega)) ?_
   refine Yg rfl Tryz.underlying5 rfl (Qu (by omega) (by omega)) ?_
   refine s_ixarS k rfl rfl rfl rfl (by omega) (Nat.zero_add k) ?_
   refine s_stk rfl rfl rfl (by simp [eightK]; omega) ?_
   refine WpL.nil (Qa (QD rfl rfl rfl (Qu (by omega) (by omega)) ?_))
   refine Qc rfl rfl (WpL.nil ?_)
   rw [eightK_set b hlt]
   refine Qv (k + 1) ?_ ?_ (by ((repeat (first | exact Top.refl | refine Top.push rfl ?_)); done)) (by repeat (first | exact FrLe.nil | refine FrLe.cons rfl ?_)) ?_
   ·omega
   ·omega
   ·exact Ent.refl _
  ·have hke : k = 8 := by omega
   subst hke
   unfold eightK
   refine QM (Qb (Qa ?_))
   refine QI (vs := [_, _, _, _, _, _, _, _]) rfl rfl rfl (by rfl) ?_
   refine XL rfl rfl rfl (by rfl) rfl ?_
   refine WpL.nil (Qi ?_)
   apply RetQ.mk
   ·exact (XO rfl rfl (by rfl))
   ·exact ⟨rfl, rfl⟩
   ·exact Ent.nil _

end Go.Proofs.YtggamdlpiejbiaaGreat
namespace Go.Proofs.YtggamdlpiejbiaaGreat
open Go.RowKit Go.Shelf

set_option maxHeartbeats 1000000 in
theorem allF_spec (A0 : HP) (a : Option Addr) (c : Nat) (bs : List Int) (hA : RdsL [A0] a (Xr bs)) (hbs : ∀ x ∈ bs, 0 ≤ x ∧ x ≤ 255) (hbl : bs.length ≤ 1000000000) (gb y : Nat) (J Jx : Nat → List HP → Prop) (hY : ∀ k (_ : k < 8 * bs.length) m, J k m → Yld Tryz.prog y ([.int .i64 (k : Int), .int .i64 (bitAt bs k)] : List Value).toArray m (rdR J Jx k)) (m0 : List HP) (h0 : J 0 m0) : Fn Tryz.prog 208 #[.func (.yield y) #[] #[], .pointer (some ⟨gb, 0, none⟩)] (QA gb [.slice a bs.length c] 22 :: A0 :: m0) (fun _ l => ∃ m', (J (8 * bs.length) m' ∨ ∃ k, k < 8 * bs.length ∧ Jx k m') ∧ l = QA gb [.slice a bs.length c] 22 :: A0 :: m') := by
 refine Qk (vs := [.func (.yield y) #[] #[], .pointer (some ⟨gb, 0, none⟩)]) Tryz.func208 rfl Tryz.ntmps208 rfl ?_
 refine Qb (Qa (Qo rfl rfl (by rfl) ?_))
 refine QC rfl rfl (Qc rfl rfl (WpL.nil (Wp.block ?_)))
 refine Wp.loopD (σ := NmX) (fun x => x.k ≤ bs.length ∧ J (8 * x.k) x.m) [3, 4, 5, 6, 9, 10, 11, 12, 13, 14, 15, 16, 17, 18, 19, 20, 21, 22, 23, 24, 25, 26, 27, 28, 29] (fun x => [(9, .int .i64 (x.k : Int))]) (fun x => QA gb [.slice a bs.length c] 22 :: A0 :: x.m) (fun x => bs.length - x.k) ⟨0, m0⟩ ?_ (by repeat (first | exact FrLe.nil | refine FrLe.cons rfl ?_)) ?_ ?_
 ·exact ⟨Nat.zero_le _, h0⟩
 ·exact Ent.refl _
 ·rintro ⟨k, m1⟩ ⟨hk, hJ⟩
  dsimp only at hk hJ ⊢
  refine Qb (Qa (Q7 rfl rfl rfl (WpL.nil (Qb (Ql rfl (fun h1 => ?_) (fun h1 => ?_))))))
  ·have hlt : k < bs.length := by omega
   have hb := hbs _ (List.getElem_mem hlt)
   refine Wp.skip (Qb (Wp.block ?_))
   refine Qb (Qa (Qc rfl rfl (Q4 k rfl rfl rfl hA (by exact Take.ent' (by repeat' constructor)) rfl (by omega) (by rw [Xa]; omega) ?_)))
   refine Q5 rfl rfl hA (by exact Take.ent' (by repeat' constructor)) (Zn bs hlt) ?_
   refine Qe rfl rfl (Qe rfl rfl (WpL.nil (Qb (Qa (Qc rfl rfl (Qh rfl rfl (by repeat' constructor) (eighth_spec _ hb.1 hb.2) ?_))))))
   rintro _ _ ⟨rfl, rfl⟩
   simp only [Qr]
   refine Qc rfl rfl (WpL.nil (Wp.block ?_))
   refine Wp.loopD (σ := JmX) (fun z => z.j ≤ 8 ∧ J (8 * k + z.j) z.m) [5, 6, 16, 17, 18, 19, 20, 21, 22, 23, 24, 25, 26, 27, 28] (fun z => [(16, .int .i64 (z.j : Int))]) (fun z => QA gb [.slice a bs.length c] 22 :: A0 :: z.m) (fun z => 8 - z.j) ⟨0, m1⟩ ?_ (by repeat (first | exact FrLe.nil | refine FrLe.cons rfl ?_)) ?_ ?_
   ·exact ⟨Nat.zero_le _, hJ⟩
   ·exact Ent.refl _
   ·rintro ⟨j, m2⟩ ⟨hj, hJ2⟩
    dsimp only at hj hJ2 ⊢
    refine Qb (Qa (Q7 rfl rfl rfl (WpL.nil (Qb (Ql rfl (fun h3 => ?_) (fun h3 => ?_))))))
    ·have hlj : j < 8 := by omega
     have hY1 := hY (8 * k + j) (by omega) m2 hJ2
     rw [bitAt_at hlt hlj, show (((8 * k + j : Nat)) : Int) = 8 * (k : Int) + (j : Int) by omega] at hY1
     refine Wp.skip (Qb (Wp.block ?_))
     refine Qb (Qa (Qc rfl rfl (s_ixav (k := j) rfl rfl rfl rfl (by omega) (eight_at _ hlj) ?_)))
     refine Qe rfl rfl (Qe rfl rfl (WpL.nil (Qb (Qa (Qc rfl rfl (Qc rfl rfl (XK rfl rfl rfl (Qu (by omega) (by omega)) ?_)))))))
     refine Qc rfl rfl (QD rfl rfl rfl (Qu (by omega) (by omega)) ?_)
     refine Qc rfl rfl (s_yield rfl rfl rfl rfl (by repeat (first | exact Take.all | apply Take.skip)) (hY1) ?_)
     rintro v m' (⟨rfl, hm'⟩ | ⟨rfl, hm'⟩)
     ·simp only [Qr]
      refine Zq rfl rfl (WpL.nil (QZ rfl (Wp.skip (Qa (QD rfl rfl rfl (Qu (by omega) (by omega)) ?_)))))
      refine Qc rfl rfl (WpL.nil (Qv (⟨j + 1, m'⟩ : JmX) ?_ ?_ (by ((repeat (first | exact Top.refl | refine Top.push rfl ?_)); done)) (by repeat (first | exact FrLe.nil | refine FrLe.cons rfl ?_)) ?_))
      ·exact ⟨by simp only; omega, hm'⟩
      ·simp only; omega
      ·exact Ent.refl _
     ·simp only [Qr]
      refine Zq rfl rfl (WpL.nil (Xc rfl (Qi ?_)))
      apply RetQ.mk
      ·exact (XZ rfl)
      ·exact ⟨m', .inr ⟨_, by omega, hm'⟩, rfl⟩
      ·exact Ent.refl _
    ·refine QM (Qa (QD rfl rfl rfl (Qu (by omega) (by omega)) ?_))
     refine Qc rfl rfl (WpL.nil (Qv (⟨k + 1, m2⟩ : NmX) ?_ ?_ (by ((repeat (first | exact Top.refl | refine Top.push rfl ?_)); done)) (by repeat (first | exact FrLe.nil | refine FrLe.cons rfl ?_)) ?_))
     ·exact ⟨by simp only; omega, by simp only; rw [show 8 * (k + 1) = 8 * k + j by omega]; exact hJ2⟩
     ·simp only; omega
     ·exact Ent.refl _
  ·refine QM ?_
   apply YK
   ·exact (XZ rfl)
   ·have hke : k = bs.length := by omega
    rw [hke] at hJ
    exact ⟨m1, .inl hJ, rfl⟩
   ·exact Ent.refl _


theorem all_iter (A0 : HP) (a : Option Addr) (c : Nat) (bs : List Int) (hA : RdsL [A0] a (Xr bs)) (hbs : ∀ x ∈ bs, 0 ≤ x ∧ x ≤ 255) (hbl : bs.length ≤ 1000000000) (gb : Nat) :
    Iter Tryz.prog 208 [.pointer (some ⟨gb, 0, none⟩)] (fun k : Nat => [.int .i64 (k : Int), .int .i64 (bitAt bs k)]) (List.range (8 * bs.length)) [QA gb [.slice a bs.length c] 22, A0] [QA gb [.slice a bs.length c] 22, A0] := by
  intro y J Jx hY m h0
  have hl : (List.range (8 * bs.length)).length = 8 * bs.length := List.length_range
  rw [hl]
  have h := allF_spec A0 a c bs hA hbs hbl gb y J Jx (fun k hk m hJ => by have := hY k (by rw [hl]; exact hk) m hJ; simpa using this) m h0
  exact h.mono fun v l hv => ⟨l, by obtain ⟨m', hm, rfl⟩ := hv; exact ⟨m', hm, rfl⟩, Ent.refl _⟩

theorem all_spec (A0 : HP) (a : Option Addr) (c : Nat) (bs : List Int) : Fn Tryz.prog 203 #[.slice a bs.length c] [A0] (fun v l => ∃ gb, v = .func (.func 208) #[] #[.pointer (some ⟨gb, 0, none⟩)] ∧ l = [QA gb [.slice a bs.length c] 22, A0]) := by
 refine Qk (vs := [.slice a bs.length c]) Tryz.func203 rfl Tryz.ntmps203 rfl (Qb (Qa (Q9 rfl rfl rfl ?_)))
 intro g1
 refine Qe rfl rfl (WpL.nil (Qb (Qa (s_mkf rfl (fun a hh => X6 hh _ _ rfl) ?_))))
 refine Qe rfl rfl (WpL.nil (Qi ?_))
 apply RetQ.mk
 ·exact (Res.one rfl rfl)
 ·exact ⟨_, rfl, rfl⟩
 ·exact Ent.refl _

end Go.Proofs.YtggamdlpiejbiaaGreat
namespace Go.Proofs.YtggamdlpiejbiaaGreat
open Go.RowKit Go.Shelf

theorem UnpackB_spec (A0 : HP) (a : Option Addr) (c : Nat) (bs : List Int) (hA : RdsL [A0] a (Xr bs)) (hbs : ∀ x ∈ bs, 0 ≤ x ∧ x ≤ 255) (hbl : bs.length ≤ 1000000000) (W : Nat) (hW : 1 ≤ W ∧ W ≤ 4096) (hn : bs.length = (W + 7) / 8) (hc : bs.length ≤ c) : Fn Tryz.prog 194 #[.slice a bs.length c, .int .i64 (W : Int)] [A0] (fun v l => ∃ a' c', v = .tuple #[.slice a' W c', .int .i64 0] ∧ l = [QG 3 1 a' c' W (QY (Z5 bs W)), A0]) := by
 refine Qk (vs := [.slice a bs.length c, .int .i64 (W : Int)]) Tryz.func194 rfl Tryz.ntmps194 rfl (Qb (Qa (Q9 rfl rfl rfl ?_)))
 intro g1
 refine Qe rfl rfl (Qe rfl rfl (WpL.nil (Qb (Qa (Qo rfl rfl (by rfl) ?_)))))
 refine Qh rfl rfl (by repeat' constructor) (Bytes_spec _ (by omega)) ?_
 rintro _ _ ⟨rfl, rfl⟩
 simp only [Qr]
 refine Qe rfl rfl (WpL.nil (Qb (Wp.block ?_)))
 refine Qb (Qa (Qc rfl rfl (QN rfl rfl rfl (Qe rfl rfl (WpL.nil (Qz rfl (by omega) ?_))))))
 refine Qb (Qa (Qc rfl rfl (QC rfl rfl (Qc rfl rfl (Q7 rfl rfl rfl (Qe rfl rfl (WpL.nil (Qz rfl (by omega) ?_))))))))
 refine Wp.skip (Qb (Qa (YE rfl ?_)))
 intro g2
 refine WpL.nil (Qb (Qb (Qa (Qc rfl rfl (Qc rfl rfl (s_sll_h (H := bs.length) rfl rfl rfl (by omega) (by omega) ?_))))))
 refine Qh rfl rfl (by repeat' constructor) (all_spec A0 a c bs) ?_
 rintro _ _ ⟨gb, rfl, rfl⟩
 simp only [Qr]
 refine WpL.nil (Wp.block ?_)
 refine Wp.rangeF (encs := fun k : Nat => [.int .i64 (k : Int), .int .i64 (bitAt bs k)]) (xs := List.range (8 * bs.length)) (QG := [QA gb [.slice a bs.length c] 22, A0]) (own' := [QA gb [.slice a bs.length c] 22, A0]) (m0 := [QA g2 [.slice none 0 0] 26, QA g1 [.int .i64 (W : Int)] 3, QG 3 1 none 0 0 []]) rfl rfl (all_iter A0 a c bs hA hbs hbl gb) (fun _ => rfl) rfl (fun k m => ∃ a9 c9, m = [QA g2 [.slice a9 (min k W) c9] 26, QA g1 [.int .i64 (W : Int)] 3, QG 3 1 a9 c9 (min k W) (QY (Z5 bs (min k W)))]) (fun _ _ _ => False) ?_ ?_ ?_ ?_ ?_
 ·exact ⟨none, 0, by rw [Nat.zero_min]; rfl⟩
 ·simp only [Qr]
  exact (Ent.own_nil (T := 3) (s := 1) (Ent.refl _)).trans (Take.ent' (by repeat' constructor))
 ·intro y k hk m hm
  obtain ⟨a9, c9, rfl⟩ := hm
  rw [List.getElem_range]
  rw [List.length_range] at hk
  refine Qb (Qa (Qe rfl rfl (WpL.nil (Qa (Qe rfl rfl (WpL.nil (⟨rfl, rfl, ?_⟩)))))))
  refine Wp.block ?_
  refine Qb (Qa (Qc rfl rfl (Qo rfl rfl (by rfl) ?_)))
  refine Q7 rfl rfl rfl (WpL.nil (Ql rfl (fun h3 => ?_) (fun h3 => ?_)))
  ·rw [Nat.min_eq_left (show k ≤ W by omega)]
   refine Qa (Qo rfl rfl (by rfl) ?_)
   refine Qc rfl rfl ?_
   refine Yb rfl rfl rfl rfl ?_
   intro g3
   refine XA rfl rfl rfl (by repeat' constructor) (by rfl) (by rfl) (by rfl) (by rfl) (by omega) (by omega) ?_
   intro a32 c32
   refine Q3 rfl rfl rfl (WpL.nil ?_)
   rw [Yz, ubits_snoc]
   refine ⟨_, ⟨a32, c32, rfl⟩, ?_⟩
   rw [Nat.min_eq_left (show k + 1 ≤ W by omega)]
   exact Take.ent' (by repeat' constructor)
  ·rw [Nat.min_eq_right (show W ≤ k by omega)]
   refine Wp.skip (⟨_, ⟨a9, c9, rfl⟩, ?_⟩)
   rw [Nat.min_eq_right (show W ≤ k + 1 by omega)]
   exact Ent.refl _
 ·intro q1 m hm
  obtain ⟨a9, c9, rfl⟩ := hm
  rw [List.length_range]
  simp only [Qr]
  rw [Nat.min_eq_right (show W ≤ 8 * bs.length by omega)]
  refine Qb (Qa (Qo rfl rfl (by rfl) ?_))
  refine Qe rfl rfl (Qe rfl rfl (WpL.nil (Qi ?_)))
  apply RetQ.mkR [q1] rfl (by repeat' constructor)
  ·exact (QB rfl rfl rfl)
  ·exact ⟨a9, c9, rfl, rfl⟩
  ·exact Take.ent' (by repeat' constructor)
 ·exact fun _ _ _ _ _ h => h.elim

end Go.Proofs.YtggamdlpiejbiaaGreat
namespace Go.Proofs.YtggamdlpiejbiaaGreat
open Go.RowKit Go.Shelf

theorem u8s_zero (N : Nat) : List.replicate N (Value.int .u8 0) = Xr (List.replicate N 0) := by simp [Xr]
theorem outB_at (l : List Int) {n i k : Nat} (h : k < n) : (Xr (outB l n i))[k]? = some (.int .u8 (XT (l.take i) k)) := by
  rw [Zn _ (by rw [outB_len]; exact h)]; simp [outB]

set_option maxHeartbeats 1000000 in
theorem PackB_spec (A0 : HP) (a : Option Addr) (c : Nat) (row : List Int) (hA : RdsL [A0] a (QY row)) (hb : ∀ x ∈ row, Zt x) (h1 : 1 ≤ row.length) (h2 : row.length ≤ 4096) : Fn Tryz.prog 144 #[.slice a row.length c] [A0] (fun v l => ∃ gB, v = .tuple #[.slice (some ⟨gB, 0, none⟩) ((row.length + 7) / 8) ((row.length + 7) / 8), .int .i64 0] ∧ l = [QG 5 1 (some ⟨gB, 0, none⟩) ((row.length + 7) / 8) ((row.length + 7) / 8) (Xr (Yn row)), A0]) := by
 refine Qk (vs := [.slice a row.length c]) Tryz.func144 rfl Tryz.ntmps144 rfl (Qb (Qa (Qe rfl rfl (Qe rfl rfl (WpL.nil (Qb (Qb (Qa (Qc rfl rfl (QC rfl rfl (Qh rfl rfl (by repeat' constructor) (sized_spec _) ?_)))))))))))
 rintro _ _ ⟨rfl, rfl⟩
 simp only [Qr]
 refine XN rfl rfl (WpL.nil (Qz rfl (fun hn => hn (by omega)) ?_))
 refine Wp.skip (Qb (Qa (Qc rfl rfl (QC rfl rfl (Qh rfl rfl (by repeat' constructor) (Bytes_spec _ (by omega)) ?_)))))
 rintro _ _ ⟨rfl, rfl⟩
 simp only [Qr]
 refine s_mko ((row.length + 7) / 8) rfl rfl (by omega) (by omega) (by omega) rfl ?_
 intro gB
 rw [u8s_zero, ← outB_zero row]
 refine Qe rfl rfl (WpL.nil (Qb (Qb (Qa (Qc rfl rfl (QC rfl rfl (Qc rfl rfl (WpL.nil (Wp.block ?_)))))))))
 refine Wp.loopD (σ := Nat) (fun k => k ≤ row.length) [2, 3, 5, 6, 17, 18, 19, 20, 21, 22, 23, 24, 25, 26, 27, 28, 29, 30, 31, 32, 33, 34, 35, 36, 37, 38, 39, 40, 41] (fun k => [(17, .int .i64 (k : Int))]) (fun k => [QG 5 1 (some ⟨gB, 0, none⟩) ((row.length + 7) / 8) ((row.length + 7) / 8) (Xr (outB row ((row.length + 7) / 8) k)), A0]) (fun k => row.length - k) 0 ?_ (by repeat (first | exact FrLe.nil | refine FrLe.cons rfl ?_)) ?_ ?_
 ·exact Nat.zero_le _
 ·exact Ent.refl _
 ·rintro k hk
  refine Qb (Qa (Q7 rfl rfl rfl (WpL.nil (Qb (Ql rfl (fun h2 => ?_) (fun h2 => ?_))))))
  ·have hlt : k < row.length := by omega
   have hbk := hb _ (List.getElem_mem hlt)
   refine Wp.skip (Qb (Wp.block ?_))
   refine Qb (Qa (Qc rfl rfl (Q4 k rfl rfl rfl hA (by exact Take.ent' (by repeat' constructor)) rfl (by omega) (by rw [QT]; omega) ?_)))
   refine Q5 rfl rfl hA (by exact Take.ent' (by repeat' constructor)) (Xi row hlt) ?_
   refine Qe rfl rfl (Qe rfl rfl (WpL.nil ?_))
   refine Wp.cut (True) [2, 3, 22, 23, 24, 25, 26, 27] ?_ (fun hc3 => ?_)
   ·refine Qb (Qa (Qc rfl rfl (Xn rfl rfl rfl (Qc rfl rfl (QK rfl rfl rfl (fun hg1 => ?_) (fun hg1 => ?_))))))
    ·have hg1 := of_decide_eq_true hg1
     refine Qc rfl rfl (Qf rfl rfl (Xn rfl rfl rfl (Qt rfl rfl rfl (WpL.nil (Qz rfl (by have := hbk; unfold Zt at this; omega) ?_)))))
     refine Wp.skip ?_
     refine ZN ?_ (by ((repeat (first | exact Top.refl | refine Top.push rfl ?_)); done)) (by exact Ent.refl _)
     exact trivial
    ·have hg1 := of_decide_eq_false hg1
     refine Qd rfl rfl rfl (by decide) (Qs rfl rfl rfl (WpL.nil (QZ rfl (Wp.skip ?_))))
     refine ZN ?_ (by ((repeat (first | exact Top.refl | refine Top.push rfl ?_)); done)) (by exact Ent.refl _)
     exact trivial
   ·obtain ⟨q, hq⟩ := byteAt_mul hlt
    have hbt := byteAt_bd (l := row.take k) (fun x hx => hb x (List.mem_of_mem_take hx)) (k / 8)
    have hbt2 := byteAt_bd (l := row.take (k + 1)) (fun x hx => hb x (List.mem_of_mem_take hx)) (k / 8)
    have hst := byteAt_step hlt
    have hp0 := two_pos (7 - k % 8)
    have hp1 := two_pos (7 - k % 8 + 1)
    have hp7 : (2 : Int) ^ (7 - k % 8) ≤ 128 := by exact_mod_cast Nat.pow_le_pow_right (show 0 < 2 by decide) (show 7 - k % 8 ≤ 7 by omega)
    have hm0 : 0 ≤ row[k] * 2 ^ (7 - k % 8) ∧ row[k] * 2 ^ (7 - k % 8) ≤ 128 := by
     have := hbk
     unfold Zt at this
     rcases this with e | e <;> rw [e] <;> omega
    have hq0 : 0 ≤ q := by
     rcases Int.lt_or_le q 0 with h | h
     ·have := Int.mul_neg_of_neg_of_pos h hp1; omega
     ·exact h
    have hor := or_bits (s := 7 - k % 8) hq0 hbk
    rw [← hq] at hor
    apply Xs (fB := []) mixed [(13, false)] (by kernel_rfl)
    apply Xk [⟨0, 28, _, [], false⟩, ⟨1, 29, _, [], false⟩, ⟨2, 30, _, [1], false⟩, ⟨3, 31, _, [0, 2], false⟩, ⟨4, 32, _, [3], false⟩, ⟨5, 33, _, [], false⟩, ⟨6, 34, _, [], false⟩, ⟨7, 35, _, [6], false⟩, ⟨8, 36, _, [7], false⟩, ⟨9, 37, _, [5, 8], false⟩, ⟨10, 38, _, [9], false⟩, ⟨11, 39, _, [4, 10], false⟩, ⟨12, 40, _, [0, 1, 2, 3, 4, 5, 6, 7, 8, 9, 10, 11], false⟩] [] [0, 1, 2, 3, 4, 5, 6, 7, 8, 9, 10, 11, 12] [] (.inr rfl) rfl rfl rfl (by kernel_rfl) rfl rfl rfl
    ·refine AllF.cons rfl rfl rfl rfl ?_ ?_
     ·exact Qc rfl rfl (Qm rfl)
     refine AllF.cons rfl rfl rfl rfl ?_ ?_
     ·exact Qc rfl rfl (Qm rfl)
     refine AllF.cons rfl rfl rfl rfl ?_ ?_
     ·refine ZG rfl rfl rfl (by omega) (by omega) (Qu (by omega) (by omega)) ?_
      rw [show (k : Int) / 8 = ((k / 8 : Nat) : Int) from rfl]
      exact Qm rfl
     refine AllF.cons rfl rfl rfl rfl ?_ ?_
     ·refine Q4 (k / 8) rfl rfl rfl QE (by exact Take.ent' (by repeat' constructor)) rfl (by omega) (by rw [Xa, outB_len]; omega) ?_
      exact Qm rfl
     refine AllF.cons rfl rfl rfl rfl ?_ ?_
     ·refine Q5 rfl rfl QE (by exact Take.ent' (by repeat' constructor)) (outB_at row (by omega)) ?_
      exact Qm rfl
     refine AllF.cons rfl rfl rfl rfl ?_ ?_
     ·exact Qc rfl rfl (Qm rfl)
     refine AllF.cons rfl rfl rfl rfl ?_ ?_
     ·exact Qc rfl rfl (Qm rfl)
     refine AllF.cons rfl rfl rfl rfl ?_ ?_
     ·refine YV rfl rfl rfl (by omega) (by omega) ?_
      exact Qm rfl
     refine AllF.cons rfl rfl rfl rfl ?_ ?_
     ·refine ZQ rfl rfl rfl (Qu (by omega) (by omega)) ?_
      exact Qm rfl
     refine AllF.cons rfl rfl rfl rfl ?_ ?_
     ·refine s_shl (2 ^ (7 - k % 8)) rfl rfl rfl ⟨by omega, by simp only [IntKind.bits]; omega, by rw [show (7 - (k : Int) % 8).toNat = 7 - k % 8 by omega]⟩ (Qu (by omega) (by omega)) ?_
      exact Qm rfl
     refine AllF.cons rfl rfl rfl rfl ?_ ?_
     ·refine Yg rfl Tryz.underlying3 rfl (w_u8 (by omega) (by omega)) ?_
      exact Qm rfl
     refine AllF.cons rfl rfl rfl rfl ?_ ?_
     ·refine s_orv (XT (row.take k) (k / 8) + row[k] * 2 ^ (7 - k % 8)) rfl rfl rfl ⟨hbt.1, by simp only [IntKind.bits]; omega⟩ ⟨hm0.1, by simp only [IntKind.bits]; omega⟩ hor (w_u8 (by omega) (by omega)) ?_
      exact Qm rfl
     refine AllF.cons rfl rfl rfl rfl ?_ ?_
     ·refine Q4 (k / 8) rfl rfl rfl QE (by exact Take.ent' (by repeat' constructor)) rfl (by omega) (by rw [Xa, outB_len]; omega) ?_
      exact Qm rfl
     exact AllF.nil
    ·refine s_sto rfl rfl rfl (by repeat' constructor) (by rw [Xa, outB_len]; omega) ?_
     refine WpL.nil ⟨rfl, rfl, ?_⟩
     apply GoR.nil [] (.inr rfl) rfl rfl
     ·exact AllF.nil
     ·refine Qa (QD rfl rfl rfl (Qu (by omega) (by omega)) ?_)
      refine Qc rfl rfl (WpL.nil ?_)
      rw [u8s_set, outB_step hlt (by omega)]
      refine Qv (k + 1) ?_ ?_ (by ((repeat (first | exact Top.refl | refine Top.push rfl ?_)); done)) (by repeat (first | exact FrLe.nil | refine FrLe.cons rfl ?_)) ?_
      ·omega
      ·omega
      ·exact Ent.refl _
  ·have hke : k = row.length := by omega
   rw [hke, outB_all]
   refine QM (Qb (Qa (Qc rfl rfl (Qe rfl rfl (Qe rfl rfl (WpL.nil (Qi ?_)))))))
   apply RetQ.mk
   ·exact (QB rfl rfl rfl)
   ·exact ⟨gB, rfl, rfl⟩
   ·exact Ent.refl _

end Go.Proofs.YtggamdlpiejbiaaGreat
namespace Go.Proofs.YtggamdlpiejbiaaGreat
open Go.RowKit Go.Shelf

theorem Z1 (k ch : Nat) : (k + 1) * ch = k * ch + ch := by rw [Nat.add_mul, Nat.one_mul]

set_option maxHeartbeats 1000000 in
theorem chunkF_spec (a : Option Addr) (c N ch W : Nat) (hch : 1 ≤ ch) (hN : N = W * ch) (hNc : N ≤ c) (hNb : N ≤ 1000000000) (gs gn y : Nat) (J Jx : Nat → List HP → Prop) (hY : ∀ k (_ : k < W) m, J k m → Yld Tryz.prog y ([.slice (sla a (k * ch) ((k + 1) * ch) 1) ch ch] : List Value).toArray m (rdR J Jx k)) (m0 : List HP) (h0 : J 0 m0) : Fn Tryz.prog 204 #[.func (.yield y) #[] #[], .pointer (some ⟨gs, 0, none⟩), .pointer (some ⟨gn, 0, none⟩)] (QA gs [.slice a N c] 26 :: QA gn [.int .i64 (ch : Int)] 3 :: m0) (fun _ l => ∃ m', (J W m' ∨ ∃ k, k < W ∧ Jx k m') ∧ l = QA gs [.slice a N c] 26 :: QA gn [.int .i64 (ch : Int)] 3 :: m') := by
 refine Qk (vs := [.func (.yield y) #[] #[], .pointer (some ⟨gs, 0, none⟩), .pointer (some ⟨gn, 0, none⟩)]) Tryz.func204 rfl Tryz.ntmps204 rfl ?_
 refine Qb (Qa (Qe rfl rfl (WpL.nil (Wp.block ?_))))
 refine Wp.loopD (σ := NmX) (fun x => x.k ≤ W ∧ J x.k x.m) [4, 5, 6, 7, 8, 9, 10, 11, 12, 13, 14, 15, 16, 17, 18, 19, 20, 21, 22, 23, 24, 25, 26, 27, 28, 29, 30] (fun x => [(4, .int .i64 ((x.k * ch : Nat) : Int))]) (fun x => QA gs [.slice a N c] 26 :: QA gn [.int .i64 (ch : Int)] 3 :: x.m) (fun x => W - x.k) ⟨0, m0⟩ ?_ (FrLe.cons (by rw [Nat.zero_mul]; rfl) FrLe.nil) ?_ ?_
 ·exact ⟨Nat.zero_le _, h0⟩
 ·exact Ent.refl _
 ·rintro ⟨k, m1⟩ ⟨hk, hJ⟩
  dsimp only at hk hJ ⊢
  have hkN : k * ch ≤ N := by rw [hN]; exact Nat.mul_le_mul_right _ hk
  refine Qb (Qb (Qa (Qc rfl rfl (Qo rfl rfl (by rfl) ?_))))
  refine QC rfl rfl (Q7 rfl rfl rfl (WpL.nil (Ql rfl (fun h1 => ?_) (fun h1 => ?_))))
  ·have hlt : k < W := by
    rcases Nat.lt_or_ge k W with h | h
    ·exact h
    ·have := Nat.mul_le_mul_right ch h; omega
   have hkN1 : (k + 1) * ch ≤ N := by rw [hN]; exact Nat.mul_le_mul_right _ hlt
   have hks := Z1 k ch
   have hY1 := hY k hlt m1 hJ
   refine Wp.skip (Qb (Wp.block ?_))
   refine Qb ?_
   apply Q0 mixed [⟨13, _, []⟩, ⟨14, _, []⟩, ⟨15, _, []⟩, ⟨16, _, [1, 2]⟩, ⟨17, _, [3]⟩, ⟨18, _, [0, 4]⟩, ⟨5, _, [5, 0, 1, 2, 3, 4]⟩] rfl
   ·refine AllObs.mk ?_ ?_
    ·refine Qo rfl rfl (by rfl) ?_
     exact Qm rfl
    refine AllObs.mk ?_ ?_
    ·refine Qo rfl rfl (by rfl) ?_
     exact Qm rfl
    refine AllObs.mk ?_ ?_
    ·exact Qc rfl rfl (Qm rfl)
    refine AllObs.mk ?_ ?_
    ·exact s_sll_l (L := k * ch) rfl rfl rfl rfl hkN (Qm rfl)
    refine AllObs.mk ?_ ?_
    ·exact QC rfl rfl (WpL.nil ⟨rfl, rfl, rfl, by exact Ent.refl _⟩)
    refine AllObs.mk ?_ ?_
    ·refine s_min2 rfl rfl rfl ?_
     rw [show min (ch : Int) ((N - k * ch : Nat) : Int) = (ch : Int) by omega]
     exact WpL.nil ⟨rfl, rfl, rfl, by exact Ent.refl _⟩
    refine AllObs.mk ?_ ?_
    ·exact Qe rfl rfl (Qm rfl)
    exact AllObs.nil
   ·refine Qb (Qa (Qc rfl rfl (Qo rfl rfl (by rfl) ?_)))
    refine Qc rfl rfl (Qc rfl rfl (Qc rfl rfl (QD rfl rfl rfl (Qu (by omega) (by omega)) ?_)))
    rw [show ((k * ch : Nat) : Int) + (ch : Int) = (((k + 1) * ch : Nat) : Int) by omega]
    refine Qc rfl rfl (Qc rfl rfl (QD rfl rfl rfl (Qu (by omega) (by omega)) ?_))
    rw [show ((k * ch : Nat) : Int) + (ch : Int) = (((k + 1) * ch : Nat) : Int) by omega]
    refine s_sll_lhm (L := k * ch) (H := (k + 1) * ch) (M := (k + 1) * ch) rfl rfl rfl rfl rfl rfl rfl rfl (by omega) (by omega) (by omega) ?_
    rw [show (k + 1) * ch - k * ch = ch by omega]
    refine s_yield rfl rfl rfl rfl (by repeat (first | exact Take.all | apply Take.skip)) (hY1) ?_
    rintro v m' (⟨rfl, hm'⟩ | ⟨rfl, hm'⟩)
    ·simp only [Qr]
     refine Zq rfl rfl (WpL.nil (QZ rfl (Wp.skip (Qa (Qc rfl rfl (Qo rfl rfl (by rfl) ?_))))))
     refine QD rfl rfl rfl (Qu (by omega) (by omega)) ?_
     refine Qe rfl rfl (WpL.nil (Qv (⟨k + 1, m'⟩ : NmX) ?_ ?_ (by ((repeat (first | exact Top.refl | refine Top.push rfl ?_)); done)) (FrLe.cons (by exact congrArg (fun x => some (Value.int .i64 x)) (by rw [Z1]; push_cast; rfl)) FrLe.nil) ?_))
     ·exact ⟨by simp only; omega, hm'⟩
     ·simp only; omega
     ·exact Ent.refl _
    ·simp only [Qr]
     refine Zq rfl rfl (WpL.nil (Xc rfl (Qi ?_)))
     apply RetQ.mk
     ·exact (XZ rfl)
     ·exact ⟨m', .inr ⟨_, hlt, hm'⟩, rfl⟩
     ·exact Ent.refl _
  ·refine QM ?_
   apply YK
   ·exact (XZ rfl)
   ·have hke : k = W := by
     rcases Nat.lt_or_ge k W with h | h
     ·exfalso; have h9 := Nat.mul_le_mul_right ch (show k + 1 ≤ W from h); rw [Z1] at h9; omega
     ·omega
    rw [hke] at hJ
    exact ⟨m1, .inl hJ, rfl⟩
   ·exact Ent.refl _


theorem chunk_iter (a : Option Addr) (c N ch W : Nat) (hch : 1 ≤ ch) (hN : N = W * ch) (hNc : N ≤ c) (hNb : N ≤ 1000000000) (gs gn : Nat) :
    Iter Tryz.prog 204 [.pointer (some ⟨gs, 0, none⟩), .pointer (some ⟨gn, 0, none⟩)] (fun k : Nat => [.slice (sla a (k * ch) ((k + 1) * ch) 1) ch ch]) (List.range W) [QA gs [.slice a N c] 26, QA gn [.int .i64 (ch : Int)] 3] [QA gs [.slice a N c] 26, QA gn [.int .i64 (ch : Int)] 3] := by
  intro y J Jx hY m h0
  have hl : (List.range W).length = W := List.length_range
  rw [hl]
  have h := chunkF_spec a c N ch W hch hN hNc hNb gs gn y J Jx (fun k hk m hJ => by have := hY k (by rw [hl]; exact hk) m hJ; simpa using this) m h0
  exact h.mono fun v l hv => ⟨l, by obtain ⟨m', hm, rfl⟩ := hv; exact ⟨m', hm, rfl⟩, Ent.refl _⟩

theorem chunk_spec (a : Option Addr) (c N ch : Nat) (hch : 1 ≤ ch) : Fn Tryz.prog 195 #[.slice a N c, .int .i64 (ch : Int)] [] (fun v l => ∃ gs gn, v = .func (.func 204) #[] #[.pointer (some ⟨gs, 0, none⟩), .pointer (some ⟨gn, 0, none⟩)] ∧ l = [QA gs [.slice a N c] 26, QA gn [.int .i64 (ch : Int)] 3]) := by
 refine Qk (vs := [.slice a N c, .int .i64 (ch : Int)]) Tryz.func195 rfl Tryz.ntmps195 rfl (Qb (Qa (Q9 rfl rfl rfl ?_)))
 intro g1
 refine Q9 rfl rfl rfl ?_
 intro g2
 refine Qe rfl rfl (WpL.nil (Qb (Qb (Qa (Qo rfl rfl (by rfl) ?_)))))
 refine Q7 rfl rfl rfl (WpL.nil (Qz rfl (by omega) ?_))
 refine Wp.skip (Qb (Qa (s_mkf rfl (fun a hh => X6 hh _ _ rfl) ?_)))
 refine Qe rfl rfl (WpL.nil (Qi ?_))
 apply RetQ.mk
 ·exact (Res.one rfl rfl)
 ·exact ⟨_, _, rfl, rfl⟩
 ·exact Take.ent' (by repeat' constructor)

end Go.Proofs.YtggamdlpiejbiaaGreat
namespace Go.Proofs.YtggamdlpiejbiaaGreat
open Go.RowKit Go.Shelf


def RawH (K W H M : Int) : Prop := Xv K W H M ∧ 4 ≤ K
theorem RawH.bd {K W H M : Int} (h : RawH K W H M) : (4 ≤ K ∧ K ≤ 6) ∧ (1 ≤ W ∧ W ≤ 4096) ∧ (1 ≤ H ∧ H ≤ 65536) ∧ (1 ≤ M ∧ M ≤ 65535) ∧ (K = 4 → M = 1) := by
  obtain ⟨h1, h2⟩ := h
  unfold Xv at h1
  omega
theorem Y0 (K : Int) : QW K = 1 ∨ QW K = 3 := by unfold QW; split <;> simp
theorem XU {K : Int} {W w : Nat} (hw : w = 1 ∨ w = 2) (h1 : 1 ≤ W) (h2 : W ≤ 4096) : 1 ≤ QF K W w ∧ QF K W w ≤ 24576 := by
  have hch := Y0 K
  unfold QF
  split
  · omega
  · rcases hch with e | e <;> rw [e] <;> rcases hw with rfl | rfl <;> simp <;> omega
theorem strd_int {K : Int} {W w : Nat} (h : K ≠ 4) : ((QF K W w : Nat) : Int) = (W : Int) * QW K * (w : Int) := by
  have hch := Y0 K
  unfold QF
  rw [if_neg h]
  push_cast
  rw [Int.toNat_of_nonneg (by omega)]

theorem YW (K W H M : Int) : Fn Tryz.prog 145 #[.agg #[.int .i64 K, .int .i64 W, .int .i64 H, .int .i64 M]] [] (fun v l => v = .int .i64 ((Qg M : Nat) : Int) ∧ l = []) := by
 refine Qk (vs := [.agg #[.int .i64 K, .int .i64 W, .int .i64 H, .int .i64 M]]) Tryz.func145 rfl Tryz.ntmps145 rfl (Qb (Qa (Q9 rfl rfl rfl ?_)))
 intro g1
 refine Qe rfl rfl (WpL.nil (Qb (Qb (Qa (Qj (o2 := 3) rfl rfl rfl (Qo rfl rfl (by rfl) ?_))))))
 refine Zm rfl rfl rfl (WpL.nil (Ql rfl (fun h0 => ?_) (fun h0 => ?_)))
 ·refine Qb (Qa (Qe rfl rfl (WpL.nil (Qi ?_))))
  apply RetQ.mk
  ·exact (Res.one rfl rfl)
  ·exact ⟨by unfold Qg; (rw [if_pos (by omega)]; rfl), rfl⟩
  ·exact Ent.nil _
 ·refine Wp.skip (Qb (Qa (Qe rfl rfl (WpL.nil (Qi ?_)))))
  apply RetQ.mk
  ·exact (Res.one rfl rfl)
  ·exact ⟨by unfold Qg; (rw [if_neg (by omega)]; rfl), rfl⟩
  ·exact Ent.nil _

theorem ZM (K : Int) (W : Nat) (H M : Int) (hR : RawH K (W : Int) H M) : Fn Tryz.prog 146 #[.agg #[.int .i64 K, .int .i64 (W : Int), .int .i64 H, .int .i64 M]] [] (fun v l => v = .int .i64 ((QF K W (Qg M) : Nat) : Int) ∧ l = []) := by
 have hb := hR.bd
 have hch := Y0 K
 have hw := Q2 M
 have hm1 : 0 ≤ (W : Int) * QW K ∧ (W : Int) * QW K ≤ 12288 := by rcases hch with e | e <;> rw [e] <;> omega
 have hm2 : 0 ≤ (W : Int) * QW K * ((Qg M : Nat) : Int) ∧ (W : Int) * QW K * ((Qg M : Nat) : Int) ≤ 24576 := by rcases hw with e | e <;> rw [e] <;> omega
 refine Qk (vs := [.agg #[.int .i64 K, .int .i64 (W : Int), .int .i64 H, .int .i64 M]]) Tryz.func146 rfl Tryz.ntmps146 rfl (Qb (Qa (Q9 rfl rfl rfl ?_)))
 intro g1
 refine Qe rfl rfl (WpL.nil (Qb (Wp.block ?_)))
 refine Qb (Qa ?_)
 refine QI (vs := [_, _, _, _]) rfl rfl rfl (by rfl) ?_
 refine Qh rfl rfl (by repeat' constructor) (ZW _ _ _ _) ?_
 rintro _ _ ⟨rfl, rfl⟩
 simp only [Qr]
 refine XN rfl rfl (Qe rfl rfl (WpL.nil (Qz rfl (fun hn => hn (by omega)) ?_)))
 refine Qb (Qa (Qj (o2 := 0) rfl rfl rfl (Qo rfl rfl (by rfl) ?_)))
 refine QN rfl rfl rfl (Qe rfl rfl (WpL.nil (Ql rfl (fun h1 => ?_) (fun h1 => ?_))))
 ·refine Qb (Qa (Qj (o2 := 1) rfl rfl rfl (Qo rfl rfl (by rfl) ?_)))
  refine Qh rfl rfl (by repeat' constructor) (Bytes_spec _ (by omega)) ?_
  rintro _ _ ⟨rfl, rfl⟩
  simp only [Qr]
  refine Qe rfl rfl (WpL.nil (Qi ?_))
  apply RetQ.mk
  ·exact (Res.one rfl rfl)
  ·exact ⟨by rw [show QF K W (Qg M) = (W + 7) / 8 from if_pos h1]; rfl, rfl⟩
  ·exact Ent.nil _
 ·refine Wp.skip (Qb ?_)
  apply Q0 mixed [⟨14, _, []⟩, ⟨15, _, [0]⟩, ⟨16, _, []⟩, ⟨17, _, [2]⟩, ⟨18, _, [3]⟩, ⟨19, _, [1, 4]⟩, ⟨20, _, []⟩, ⟨21, _, [6, 3]⟩, ⟨22, _, [5, 7]⟩, ⟨2, _, [8, 7, 0, 1, 2, 3, 4, 5, 6]⟩] rfl
  ·refine AllObs.mk ?_ ?_
   ·exact Qj (o2 := 1) rfl rfl rfl (Qm rfl)
   refine AllObs.mk ?_ ?_
   ·refine Qo rfl rfl (by rfl) ?_
    exact Qm rfl
   refine AllObs.mk ?_ ?_
   ·refine QI (vs := [_, _, _, _]) rfl rfl rfl (by rfl) ?_
    exact Qm rfl
   refine AllObs.mk ?_ ?_
   ·refine Qh rfl rfl (by repeat' constructor) (XJ _ _ _ _ (by omega)) ?_
    rintro _ _ ⟨rfl, rfl⟩
    simp only [Qr]
    rw [show (if K % 3 = 0 then (3 : Int) else 1) = QW K from rfl]
    exact WpL.nil ⟨rfl, rfl, rfl, by exact Ent.refl _⟩
   refine AllObs.mk ?_ ?_
   ·exact s_fv rfl rfl rfl (Qm rfl)
   refine AllObs.mk ?_ ?_
   ·refine XK rfl rfl rfl (Qu (by omega) (by omega)) ?_
    exact Qm rfl
   refine AllObs.mk ?_ ?_
   ·refine QI (vs := [_, _, _, _]) rfl rfl rfl (by rfl) ?_
    exact Qm rfl
   refine AllObs.mk ?_ ?_
   ·refine Qh rfl rfl (by repeat' constructor) (YW _ _ _ _) ?_
    rintro _ _ ⟨rfl, rfl⟩
    simp only [Qr]
    exact WpL.nil ⟨rfl, rfl, rfl, by exact Ent.refl _⟩
   refine AllObs.mk ?_ ?_
   ·refine XK rfl rfl rfl (Qu (by omega) (by omega)) ?_
    exact Qm rfl
   refine AllObs.mk ?_ ?_
   ·exact Qe rfl rfl (Qm rfl)
   exact AllObs.nil
  ·refine Qi ?_
   apply RetQ.mk
   ·exact (Res.one rfl rfl)
   ·exact ⟨by rw [strd_int h1], rfl⟩
   ·exact Ent.nil _

end Go.Proofs.YtggamdlpiejbiaaGreat
