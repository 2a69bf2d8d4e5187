/- Walks and plain laws, a part of the proof of ImageTurns: every input that the law's guards let in, no condition beside. -/
import Derived.Test.YtggamdlpiejbiaaGreatM12
namespace Go.Proofs.YtggamdlpiejbiaaGreat
open Go.RowKit Go.Shelf

def bitv (x : Int) : Prop := x = 0 ∨ x = 1
/-- Bits joined, the highest first: the first one weighs w. -/
def bw : List Int → Nat → Int
  | [], _ => 0
  | x :: xs, m => x * 2 ^ m + bw xs (m - 1)
theorem bw_bd : ∀ (xs : List Int) (m : Nat), xs.length ≤ m + 1 → (∀ x ∈ xs, bitv x) → 0 ≤ bw xs m ∧ bw xs m < 2 ^ (m + 1)
  | [], m, _, _ => ⟨by simp [bw], by simp only [bw]; exact_mod_cast Nat.two_pow_pos (m + 1)⟩
  | x :: xs, m, hl, hb => by
    have hx := hb x (by simp)
    have h2 : (0 : Int) < 2 ^ m := by exact_mod_cast Nat.two_pow_pos m
    rw [Int.pow_succ]
    cases m with
    | zero =>
      have : xs = [] := List.eq_nil_of_length_eq_zero (by simp only [List.length_cons] at hl; omega)
      subst this
      unfold bitv at hx
      simp only [bw]; rcases hx with rfl | rfl <;> simp
    | succ m =>
      have ih := bw_bd xs m (by simp at hl; omega) fun y hy => hb y (by simp [hy])
      unfold bitv at hx
      simp only [bw, Nat.add_sub_cancel]
      rcases hx with rfl | rfl <;> omega
theorem bw_snoc (b : Int) : ∀ (xs : List Int) (m : Nat), xs.length ≤ m → bw (xs ++ [b]) m = bw xs m + b * 2 ^ (m - xs.length)
  | [], m, _ => by simp [bw]
  | x :: xs, m, h => by
    simp only [List.length_cons] at h
    rw [List.cons_append, bw, bw, bw_snoc b xs (m - 1) (by omega), List.length_cons, show m - 1 - xs.length = m - (xs.length + 1) by omega]
    omega
/-- What stands above a place is a multiple. -/
theorem bw_mul : ∀ (xs : List Int) (m : Nat), xs.length ≤ m + 1 → ∃ q, bw xs m = q * 2 ^ (m + 1 - xs.length)
  | [], m, _ => ⟨0, by simp [bw]⟩
  | x :: xs, m, h => by
    simp only [List.length_cons] at h
    cases m with
    | zero =>
      have : xs = [] := List.eq_nil_of_length_eq_zero (by omega)
      subst this
      exact ⟨x, by simp [bw]⟩
    | succ m =>
      obtain ⟨q, hq⟩ := bw_mul xs m (by omega)
      refine ⟨x * 2 ^ xs.length + q, ?_⟩
      rw [bw, Nat.add_sub_cancel, hq, Int.add_mul, Int.mul_assoc, ← Int.pow_add]
      rw [List.length_cons, show xs.length + (m + 1 + 1 - (xs.length + 1)) = m + 1 by omega, show m + 1 + 1 - (xs.length + 1) = m + 1 - xs.length by omega]
def byteOf (xs : List Int) : Int := bw xs 7
def X8 (l : List Int) (j : Nat) : Int := byteOf ((l.drop (8 * j)).take 8)
def packB (l : List Int) : List Int := (List.range ((l.length + 7) / 8)).map (X8 l)
def bitAt (bs : List Int) (i : Nat) : Int := (bs[i / 8]?.getD 0) / 2 ^ (7 - i % 8) % 2
def ubits (bs : List Int) (w : Nat) : List Int := (List.range w).map (bitAt bs)
theorem packB_len (l : List Int) : (packB l).length = (l.length + 7) / 8 := by simp [packB]
theorem byteAt_bd {l : List Int} (h : ∀ x ∈ l, bitv x) (j : Nat) : 0 ≤ X8 l j ∧ X8 l j ≤ 255 := by
  have := bw_bd ((l.drop (8 * j)).take 8) 7 (by rw [List.length_take]; omega) fun x hx => h x (List.mem_of_mem_drop (List.mem_of_mem_take hx))
  unfold X8 byteOf
  omega
theorem byte_seg {l : List Int} {i : Nat} (hi : i < l.length) : ((l.take (i + 1)).drop (8 * (i / 8))).take 8 = ((l.take i).drop (8 * (i / 8))).take 8 ++ [l[i]] := by
  have h1 : ((l.take i).drop (8 * (i / 8))).length = i % 8 := by rw [List.length_drop, List.length_take]; omega
  rw [Xd l hi, List.drop_append_of_le_length (by rw [List.length_take]; omega), List.take_append, h1]
  rw [show 8 - i % 8 = (7 - i % 8) + 1 by omega, List.take_succ_cons, List.take_nil]
theorem byte_segl {l : List Int} {i : Nat} (hi : i < l.length) : (((l.take i).drop (8 * (i / 8))).take 8).length = i % 8 := by rw [List.length_take, List.length_drop, List.length_take]; omega
theorem byteAt_step {l : List Int} {i : Nat} (hi : i < l.length) : X8 (l.take (i + 1)) (i / 8) = X8 (l.take i) (i / 8) + l[i] * 2 ^ (7 - i % 8) := by
  unfold X8 byteOf
  rw [byte_seg hi, bw_snoc _ _ _ (by rw [byte_segl hi]; omega), byte_segl hi]
theorem byteAt_mul {l : List Int} {i : Nat} (hi : i < l.length) : ∃ q, X8 (l.take i) (i / 8) = q * 2 ^ (7 - i % 8 + 1) := by
  obtain ⟨q, hq⟩ := bw_mul (((l.take i).drop (8 * (i / 8))).take 8) 7 (by rw [byte_segl hi]; omega)
  rw [byte_segl hi, show 7 + 1 - i % 8 = 7 - i % 8 + 1 by omega] at hq
  exact ⟨q, hq⟩
theorem byteAt_other {l : List Int} {i j : Nat} (hi : i < l.length) (h : j ≠ i / 8) : X8 (l.take (i + 1)) j = X8 (l.take i) j := by
  unfold X8
  congr 1
  rw [Xd l hi]
  by_cases h1 : 8 * j ≤ i
  · rw [List.drop_append_of_le_length (by rw [List.length_take]; omega), List.take_append_of_le_length (by rw [List.length_drop, List.length_take]; omega)]
  · rw [List.drop_eq_nil_of_le (by rw [List.length_append, List.length_take]; simp; omega), List.drop_eq_nil_of_le (by rw [List.length_take]; omega)]
def outB (l : List Int) (n i : Nat) : List Int := (List.range n).map (X8 (l.take i))
theorem outB_len (l : List Int) (n i : Nat) : (outB l n i).length = n := by simp [outB]
theorem outB_zero (l : List Int) (n : Nat) : outB l n 0 = List.replicate n 0 := by
  unfold outB
  apply List.ext_getElem
  · simp
  · intro k h1 h2
    simp [X8, byteOf, bw]
theorem outB_all (l : List Int) : outB l ((l.length + 7) / 8) l.length = packB l := by unfold outB packB; rw [List.take_length]
theorem outB_step {l : List Int} {n i : Nat} (hi : i < l.length) (_hn : i / 8 < n) : (outB l n i).set (i / 8) (X8 (l.take i) (i / 8) + l[i] * 2 ^ (7 - i % 8)) = outB l n (i + 1) := by
  apply List.ext_getElem
  · simp [outB]
  · intro k h1 h2
    rw [List.getElem_set]
    simp only [outB, List.getElem_map, List.getElem_range]
    split
    · rename_i e; rw [← e, byteAt_step hi]
    · rename_i e; rw [byteAt_other hi (Ne.symm e)]
theorem or_bits {q b : Int} {s : Nat} (hq : 0 ≤ q) (hb : bitv b) : (((q * 2 ^ (s + 1)).toNat ||| (b * 2 ^ s).toNat : Nat) : Int) = q * 2 ^ (s + 1) + b * 2 ^ s := by
  obtain ⟨a, rfl⟩ := Int.eq_ofNat_of_zero_le hq
  have e : (((a : Int) * 2 ^ (s + 1)).toNat) = a <<< (s + 1) := by
    rw [Nat.shiftLeft_eq]; exact_mod_cast Int.toNat_natCast (a * 2 ^ (s + 1))
  rw [e]
  unfold bitv at hb
  have hlt : 2 ^ s < 2 ^ (s + 1) := Nat.pow_lt_pow_right (by omega) (by omega)
  rcases hb with rfl | rfl
  · simp [Nat.shiftLeft_eq]
  · have e2 : ((1 : Int) * 2 ^ s).toNat = 2 ^ s := by rw [Int.one_mul]; exact_mod_cast Int.toNat_natCast (2 ^ s)
    rw [e2, ← Nat.shiftLeft_add_eq_or_of_lt hlt, Nat.shiftLeft_eq]
    push_cast
    omega
def Qi (M : Int) : Nat := if 255 < M then 2 else 1
theorem Q4 (M : Int) : Qi M = 1 ∨ Qi M = 2 := by unfold Qi; split <;> simp
def Y8 (w : Nat) (x : Int) : List Int := if w = 1 then [x] else [x / 256, x % 256]
def XH (w : Nat) (b : List Int) (i : Nat) : Int := if w = 1 then b[i]?.getD 0 else (b[2 * i]?.getD 0) * 256 + (b[2 * i + 1]?.getD 0)
def Zp (w : Nat) (b : List Int) : List Int := (List.range (b.length / w)).map (XH w b)
theorem enc_len {w : Nat} (hw : w = 1 ∨ w = 2) (xs : List Int) : (xs.flatMap (Y8 w)).length = xs.length * w := by
  induction xs with
  | nil => simp
  | cons x xs ih =>
    rw [List.flatMap_cons, List.length_append, ih, List.length_cons, Nat.add_mul]
    rcases hw with rfl | rfl <;> simp [Y8] <;> omega
def Zk (ch : Nat) (l : List Int) : List Int := (List.range (l.length / ch)).map fun k => (Xy ((l.drop (k * ch)).take ch)).1
theorem flat_len {ch : Nat} (px : List Int) (h : ∀ p ∈ px, (Qp p).length = ch) : (px.flatMap Qp).length = px.length * ch := by
  induction px with
  | nil => simp
  | cons p px ih =>
    rw [List.flatMap_cons, List.length_append, ih fun q hq => h q (by simp [hq]), h p (by simp), List.length_cons, Nat.add_mul]
    omega
def Zn (K : Int) (w : Nat) (row : List Int) : List Int := if K = 4 then packB row else row.flatMap (Y8 w)
def YG (K : Int) (W : Nat) (w : Nat) (b : List Int) : List Int := Zk (QZ K).toNat (if K = 4 then ubits b W else Zp w b)
structure RW where
  (b : List Int) (n : Nat) (rows last e : Int)
/-- A raw raster's reader, told a byte. -/
def Xm (K : Int) (W : Nat) (H M : Int) (s : RW) (c : Int) : RW × List Int :=
  if s.last ≠ 0 then (s, []) else
  if K ≠ 4 ∧ (s.n + 1) % Qi M = 0 ∧ XH (Qi M) (s.b.set s.n c) ((s.n + 1) / Qi M - 1) > M then (⟨s.b.set s.n c, s.n + 1, s.rows, 2, 5⟩, []) else
  if s.n + 1 < s.b.length then (⟨s.b.set s.n c, s.n + 1, s.rows, 0, s.e⟩, []) else
  (⟨s.b.set s.n c, 0, s.rows + 1, if s.rows + 1 = H then 1 else 0, s.e⟩, YG K W (Qi M) (s.b.set s.n c))
def YK (K : Int) (W : Nat) (H M : Int) : List Int → RW → List Int → List Int × Int
  | [], _, _ => ([], 6)
  | c :: bs, s, acc => if (Xm K W H M s c).1.last = 1 then (acc ++ (Xm K W H M s c).2, 0) else if (Xm K W H M s c).1.last = 2 then ([], (Xm K W H M s c).1.e) else YK K W H M bs (Xm K W H M s c).1 (acc ++ (Xm K W H M s c).2)
/-- A raster's bytes: row by row. -/
def wrRows (K : Int) (W w : Nat) (px : List Int) (n : Nat) : List (List Int) := (List.range n).map fun y => Zn K w (((px.drop (y * W)).take W).flatMap Qp)
def Xk (K : Int) (W w : Nat) (px : List Int) (n : Nat) : List Int := (wrRows K W w px n).flatten
def QD (K : Int) (W w : Nat) : Nat := if K = 4 then (W + 7) / 8 else W * (QZ K).toNat * w
def eightF (b : Int) (k j : Nat) : Value := .int .i64 (if j < k then b / 2 ^ (7 - j) % 2 else 0)
def eightK (b : Int) (k : Nat) : List Value := [eightF b k 0, eightF b k 1, eightF b k 2, eightF b k 3, eightF b k 4, eightF b k 5, eightF b k 6, eightF b k 7]
theorem eightK_set (b : Int) {k : Nat} (h : k < 8) : (eightK b k).set k (.int .i64 (b / 2 ^ (7 - k) % 2)) = eightK b (k + 1) := by
  obtain rfl | rfl | rfl | rfl | rfl | rfl | rfl | rfl : k = 0 ∨ k = 1 ∨ k = 2 ∨ k = 3 ∨ k = 4 ∨ k = 5 ∨ k = 6 ∨ k = 7 := by omega
  all_goals rfl
theorem eight_at (b : Int) {j : Nat} (h : j < 8) : (eightK b 8)[j]? = some (.int .i64 (b / 2 ^ (7 - j) % 2)) := by
  obtain rfl | rfl | rfl | rfl | rfl | rfl | rfl | rfl : j = 0 ∨ j = 1 ∨ j = 2 ∨ j = 3 ∨ j = 4 ∨ j = 5 ∨ j = 6 ∨ j = 7 := by omega
  all_goals rfl
theorem bitAt_at {bs : List Int} {k j : Nat} (hk : k < bs.length) (hj : j < 8) : bitAt bs (8 * k + j) = bs[k] / 2 ^ (7 - j) % 2 := by
  unfold bitAt
  rw [show (8 * k + j) / 8 = k by omega, show (8 * k + j) % 8 = j by omega, List.getElem?_eq_getElem hk]
  rfl
theorem ubits_len (bs : List Int) (n : Nat) : (ubits bs n).length = n := by simp [ubits]
theorem ubits_snoc (bs : List Int) (n : Nat) : ubits bs n ++ [bitAt bs n] = ubits bs (n + 1) := by simp [ubits, List.range_succ]
theorem two_pos (k : Nat) : (0 : Int) < 2 ^ k := by exact_mod_cast Nat.two_pow_pos k
structure NmX where
  (k : Nat) (m : List HP)
structure JmX where
  (j : Nat) (m : List HP)

end Go.Proofs.YtggamdlpiejbiaaGreat
namespace Go.Proofs.YtggamdlpiejbiaaGreat
open Go.RowKit Go.Shelf

theorem sized_spec (W : Int) : Fn Tryz.prog 181 #[.int .i64 W] [] (fun v l => v = .bool (decide (1 ≤ W ∧ W ≤ 4096)) ∧ l = []) := by
 refine Qk (vs := [.int .i64 W]) Tryz.func181 rfl Tryz.ntmps181 rfl (Qb (Qa (Qe rfl rfl (WpL.nil (Qb (Qa (Qd rfl rfl (Zo rfl rfl rfl (Qd rfl rfl (QH rfl rfl rfl (fun hg1 => ?_) (fun hg1 => ?_)))))))))))
 ·have hg1 := of_decide_eq_true hg1
  refine Qd rfl rfl (Qf rfl rfl (s_le rfl rfl rfl (Qx rfl rfl rfl (Qe rfl rfl (WpL.nil (Qh ?_))))))
  apply RetQ.mk
  ·exact (Res.one rfl rfl)
  ·exact ⟨congrArg Value.bool (by exact dd (by omega)), rfl⟩
  ·exact Ent.refl _
 ·have hg1 := of_decide_eq_false hg1
  refine Qc rfl rfl rfl (by decide) (Qq rfl rfl rfl (Qe rfl rfl (WpL.nil (Qh ?_))))
  apply RetQ.mk
  ·exact (Res.one rfl rfl)
  ·exact ⟨congrArg Value.bool (by exact df (by omega)), rfl⟩
  ·exact Ent.refl _

theorem Bytes_spec (W : Int) (h : 1 ≤ W ∧ W ≤ 4096) : Fn Tryz.prog 182 #[.int .i64 W] [] (fun v l => v = .int .i64 ((W + 7) / 8) ∧ l = []) := by
 refine Qk (vs := [.int .i64 W]) Tryz.func182 rfl Tryz.ntmps182 rfl (Qb (Qa (Qe rfl rfl (WpL.nil (Qb (Qb (Qa (Qd rfl rfl (Qg rfl rfl (by repeat' constructor) (sized_spec _) ?_)))))))))
 rintro _ _ ⟨rfl, rfl⟩
 simp only [Qr]
 refine XY rfl rfl (WpL.nil (QA rfl (fun hn => hn h) ?_))
 refine Wp.skip (Qb (Qa (Qd rfl rfl (QE rfl rfl rfl (Qt (by omega) (by omega)) ?_))))
 refine Yz rfl rfl rfl (Qt (by omega) (by omega)) ?_
 refine Y5 rfl rfl rfl (by omega) (by omega) (Qt (by omega) (by omega)) ?_
 refine Qe rfl rfl (WpL.nil (Qh ?_))
 apply RetQ.mk
 ·exact (Res.one rfl rfl)
 ·exact ⟨by rw [show W + 8 - 1 = W + 7 by omega], rfl⟩
 ·exact Ent.refl _

theorem eighth_spec (b : Int) (hb0 : 0 ≤ b) (hb1 : b ≤ 255) : Fn Tryz.prog 209 #[.int .u8 b] [] (fun v l => v = .agg (eightK b 8).toArray ∧ l = []) := by
 refine Qk (vs := [.int .u8 b]) Tryz.func209 rfl Tryz.ntmps209 rfl (Qb (Qa (XK rfl ?_)))
 intro g1
 refine WpL.nil (Qb (Qa (XK rfl ?_)))
 intro g2
 refine WpL.nil (Qb (Qb (Qa (Qd rfl rfl (WpL.nil (Wp.block ?_))))))
 refine Wp.loopD (σ := Nat) (fun k => k ≤ 8) [4, 5, 6, 7, 8, 9, 10, 11, 12, 13, 14, 15, 16] (fun k => [(5, .int .i64 (k : Int))]) (fun k => [QB g2 (eightK b k) 271, QB g1 (eightK b 0) 271]) (fun k => 8 - k) 0 ?_ (by repeat (first | exact FrLe.nil | refine FrLe.cons rfl ?_)) ?_ ?_
 ·omega
 ·exact Ent.refl _
 ·rintro k hk
  refine Qb (Qa (Q6 rfl rfl rfl (WpL.nil (Qb (Qm rfl (fun h1 => ?_) (fun h1 => ?_))))))
  ·have hlt : k < 8 := by omega
   have hp := two_pos (7 - k)
   have hq0 : 0 ≤ b / 2 ^ (7 - k) := Int.ediv_nonneg hb0 (by omega)
   have hq1 : b / 2 ^ (7 - k) ≤ 255 := Int.le_trans (Int.ediv_le_self _ hb0) hb1
   refine Wp.skip (Qb (Wp.block ?_))
   refine Qb (Qa (Qd rfl rfl (Qe rfl rfl (WpL.nil (Qa (Qd rfl rfl (Qd rfl rfl (Qd rfl rfl (Yz rfl rfl rfl (Qt (by omega) (by omega)) ?_)))))))))
   refine s_shr (2 ^ (7 - k)) rfl rfl rfl ⟨by omega, by simp only [IntKind.bits]; omega, by rw [show (7 - (k : Int)).toNat = 7 - k by omega]⟩ hp ?_
   refine s_and 2 1 rfl rfl rfl (by decide) hq0 (by simp only [IntKind.bits]; omega) (w_u8 (by omega) (by omega)) ?_
   refine Ya rfl Tryz.underlying5 rfl (Qt (by omega) (by omega)) ?_
   refine s_ixarS k rfl rfl rfl rfl (by omega) (Nat.zero_add k) ?_
   refine s_stk rfl rfl rfl (by simp [eightK]; omega) ?_
   refine WpL.nil (Qa (QE rfl rfl rfl (Qt (by omega) (by omega)) ?_))
   refine Qd rfl rfl (WpL.nil ?_)
   rw [eightK_set b hlt]
   refine Qy (k + 1) ?_ ?_ (by ((repeat (first | exact Top.refl | refine Top.push rfl ?_)); done)) (by repeat (first | exact FrLe.nil | refine FrLe.cons rfl ?_)) ?_
   ·omega
   ·omega
   ·exact Ent.refl _
  ·have hke : k = 8 := by omega
   subst hke
   unfold eightK
   refine QL (Qb (Qa ?_))
   refine Qz (vs := [_, _, _, _, _, _, _, _]) rfl rfl rfl (by rfl) ?_
   refine QY rfl rfl rfl (by rfl) rfl ?_
   refine WpL.nil (Qh ?_)
   apply RetQ.mk
   ·exact (XF rfl rfl (by rfl))
   ·exact ⟨rfl, rfl⟩
   ·exact Ent.nil _

end Go.Proofs.YtggamdlpiejbiaaGreat
namespace Go.Proofs.YtggamdlpiejbiaaGreat
open Go.RowKit Go.Shelf

set_option maxHeartbeats 1000000 in
theorem allF_spec (A0 : HP) (a : Option Addr) (c : Nat) (bs : List Int) (hA : RdsL [A0] a (Xn bs)) (hbs : ∀ x ∈ bs, 0 ≤ x ∧ x ≤ 255) (hbl : bs.length ≤ 1000000000) (gb y : Nat) (J Jx : Nat → List HP → Prop) (hY : ∀ k (_ : k < 8 * bs.length) m, J k m → Yld Tryz.prog y ([.int .i64 (k : Int), .int .i64 (bitAt bs k)] : List Value).toArray m (rdR J Jx k)) (m0 : List HP) (h0 : J 0 m0) : Fn Tryz.prog 208 #[.func (.yield y) #[] #[], .pointer (some ⟨gb, 0, none⟩)] (QB gb [.slice a bs.length c] 22 :: A0 :: m0) (fun _ l => ∃ m', (J (8 * bs.length) m' ∨ ∃ k, k < 8 * bs.length ∧ Jx k m') ∧ l = QB gb [.slice a bs.length c] 22 :: A0 :: m') := by
 refine Qk (vs := [.func (.yield y) #[] #[], .pointer (some ⟨gb, 0, none⟩)]) Tryz.func208 rfl Tryz.ntmps208 rfl ?_
 refine Qb (Qa (Qo rfl rfl (by rfl) ?_))
 refine QK rfl rfl (Qd rfl rfl (WpL.nil (Wp.block ?_)))
 refine Wp.loopD (σ := NmX) (fun x => x.k ≤ bs.length ∧ J (8 * x.k) x.m) [3, 4, 5, 6, 9, 10, 11, 12, 13, 14, 15, 16, 17, 18, 19, 20, 21, 22, 23, 24, 25, 26, 27, 28, 29] (fun x => [(9, .int .i64 (x.k : Int))]) (fun x => QB gb [.slice a bs.length c] 22 :: A0 :: x.m) (fun x => bs.length - x.k) ⟨0, m0⟩ ?_ (by repeat (first | exact FrLe.nil | refine FrLe.cons rfl ?_)) ?_ ?_
 ·exact ⟨Nat.zero_le _, h0⟩
 ·exact Ent.refl _
 ·rintro ⟨k, m1⟩ ⟨hk, hJ⟩
  dsimp only at hk hJ ⊢
  refine Qb (Qa (Q6 rfl rfl rfl (WpL.nil (Qb (Qm rfl (fun h1 => ?_) (fun h1 => ?_))))))
  ·have hlt : k < bs.length := by omega
   have hb := hbs _ (List.getElem_mem hlt)
   refine Wp.skip (Qb (Wp.block ?_))
   refine Qb (Qa (Qd rfl rfl (Q3 k rfl rfl rfl hA (by exact Take.ent' (by repeat' constructor)) rfl (by omega) (by rw [Q1]; omega) ?_)))
   refine Xb rfl rfl hA (by exact Take.ent' (by repeat' constructor)) (YQ bs hlt) ?_
   refine Qe rfl rfl (Qe rfl rfl (WpL.nil (Qb (Qa (Qd rfl rfl (Qg rfl rfl (by repeat' constructor) (eighth_spec _ hb.1 hb.2) ?_))))))
   rintro _ _ ⟨rfl, rfl⟩
   simp only [Qr]
   refine Qd rfl rfl (WpL.nil (Wp.block ?_))
   refine Wp.loopD (σ := JmX) (fun z => z.j ≤ 8 ∧ J (8 * k + z.j) z.m) [5, 6, 16, 17, 18, 19, 20, 21, 22, 23, 24, 25, 26, 27, 28] (fun z => [(16, .int .i64 (z.j : Int))]) (fun z => QB gb [.slice a bs.length c] 22 :: A0 :: z.m) (fun z => 8 - z.j) ⟨0, m1⟩ ?_ (by repeat (first | exact FrLe.nil | refine FrLe.cons rfl ?_)) ?_ ?_
   ·exact ⟨Nat.zero_le _, hJ⟩
   ·exact Ent.refl _
   ·rintro ⟨j, m2⟩ ⟨hj, hJ2⟩
    dsimp only at hj hJ2 ⊢
    refine Qb (Qa (Q6 rfl rfl rfl (WpL.nil (Qb (Qm rfl (fun h3 => ?_) (fun h3 => ?_))))))
    ·have hlj : j < 8 := by omega
     have hY1 := hY (8 * k + j) (by omega) m2 hJ2
     rw [bitAt_at hlt hlj, show (((8 * k + j : Nat)) : Int) = 8 * (k : Int) + (j : Int) by omega] at hY1
     refine Wp.skip (Qb (Wp.block ?_))
     refine Qb (Qa (Qd rfl rfl (s_ixav (k := j) rfl rfl rfl rfl (by omega) (eight_at _ hlj) ?_)))
     refine Qe rfl rfl (Qe rfl rfl (WpL.nil (Qb (Qa (Qd rfl rfl (Qd rfl rfl (Xz rfl rfl rfl (Qt (by omega) (by omega)) ?_)))))))
     refine Qd rfl rfl (QE rfl rfl rfl (Qt (by omega) (by omega)) ?_)
     refine Qd rfl rfl (s_yield rfl rfl rfl rfl (by repeat (first | exact Take.all | apply Take.skip)) (hY1) ?_)
     rintro v m' (⟨rfl, hm'⟩ | ⟨rfl, hm'⟩)
     ·simp only [Qr]
      refine YM rfl rfl (WpL.nil (QV rfl (Wp.skip (Qa (QE rfl rfl rfl (Qt (by omega) (by omega)) ?_)))))
      refine Qd rfl rfl (WpL.nil (Qy (⟨j + 1, m'⟩ : JmX) ?_ ?_ (by ((repeat (first | exact Top.refl | refine Top.push rfl ?_)); done)) (by repeat (first | exact FrLe.nil | refine FrLe.cons rfl ?_)) ?_))
      ·exact ⟨by simp only; omega, hm'⟩
      ·simp only; omega
      ·exact Ent.refl _
     ·simp only [Qr]
      refine YM rfl rfl (WpL.nil (XG rfl (Qh ?_)))
      apply RetQ.mk
      ·exact (XQ rfl)
      ·exact ⟨m', .inr ⟨_, by omega, hm'⟩, rfl⟩
      ·exact Ent.refl _
    ·refine QL (Qa (QE rfl rfl rfl (Qt (by omega) (by omega)) ?_))
     refine Qd rfl rfl (WpL.nil (Qy (⟨k + 1, m2⟩ : NmX) ?_ ?_ (by ((repeat (first | exact Top.refl | refine Top.push rfl ?_)); done)) (by repeat (first | exact FrLe.nil | refine FrLe.cons rfl ?_)) ?_))
     ·exact ⟨by simp only; omega, by simp only; rw [show 8 * (k + 1) = 8 * k + j by omega]; exact hJ2⟩
     ·simp only; omega
     ·exact Ent.refl _
  ·refine QL ?_
   apply Yr
   ·exact (XQ rfl)
   ·have hke : k = bs.length := by omega
    rw [hke] at hJ
    exact ⟨m1, .inl hJ, rfl⟩
   ·exact Ent.refl _


theorem all_iter (A0 : HP) (a : Option Addr) (c : Nat) (bs : List Int) (hA : RdsL [A0] a (Xn bs)) (hbs : ∀ x ∈ bs, 0 ≤ x ∧ x ≤ 255) (hbl : bs.length ≤ 1000000000) (gb : Nat) :
    Iter Tryz.prog 208 [.pointer (some ⟨gb, 0, none⟩)] (fun k : Nat => [.int .i64 (k : Int), .int .i64 (bitAt bs k)]) (List.range (8 * bs.length)) [QB gb [.slice a bs.length c] 22, A0] [QB gb [.slice a bs.length c] 22, A0] := by
  intro y J Jx hY m h0
  have hl : (List.range (8 * bs.length)).length = 8 * bs.length := List.length_range
  rw [hl]
  have h := allF_spec A0 a c bs hA hbs hbl gb y J Jx (fun k hk m hJ => by have := hY k (by rw [hl]; exact hk) m hJ; simpa using this) m h0
  exact h.mono fun v l hv => ⟨l, by obtain ⟨m', hm, rfl⟩ := hv; exact ⟨m', hm, rfl⟩, Ent.refl _⟩

theorem all_spec (A0 : HP) (a : Option Addr) (c : Nat) (bs : List Int) : Fn Tryz.prog 203 #[.slice a bs.length c] [A0] (fun v l => ∃ gb, v = .func (.func 208) #[] #[.pointer (some ⟨gb, 0, none⟩)] ∧ l = [QB gb [.slice a bs.length c] 22, A0]) := by
 refine Qk (vs := [.slice a bs.length c]) Tryz.func203 rfl Tryz.ntmps203 rfl (Qb (Qa (QP rfl rfl rfl ?_)))
 intro g1
 refine Qe rfl rfl (WpL.nil (Qb (Qa (s_mkf rfl (fun a hh => XO hh _ _ rfl) ?_))))
 refine Qe rfl rfl (WpL.nil (Qh ?_))
 apply RetQ.mk
 ·exact (Res.one rfl rfl)
 ·exact ⟨_, rfl, rfl⟩
 ·exact Ent.refl _

end Go.Proofs.YtggamdlpiejbiaaGreat
namespace Go.Proofs.YtggamdlpiejbiaaGreat
open Go.RowKit Go.Shelf

theorem UnpackB_spec (A0 : HP) (a : Option Addr) (c : Nat) (bs : List Int) (hA : RdsL [A0] a (Xn bs)) (hbs : ∀ x ∈ bs, 0 ≤ x ∧ x ≤ 255) (hbl : bs.length ≤ 1000000000) (W : Nat) (hW : 1 ≤ W ∧ W ≤ 4096) (hn : bs.length = (W + 7) / 8) (hc : bs.length ≤ c) : Fn Tryz.prog 194 #[.slice a bs.length c, .int .i64 (W : Int)] [A0] (fun v l => ∃ a' c', v = .tuple #[.slice a' W c', .int .i64 0] ∧ l = [QG 3 1 a' c' W (QU (ubits bs W)), A0]) := by
 refine Qk (vs := [.slice a bs.length c, .int .i64 (W : Int)]) Tryz.func194 rfl Tryz.ntmps194 rfl (Qb (Qa (QP rfl rfl rfl ?_)))
 intro g1
 refine Qe rfl rfl (Qe rfl rfl (WpL.nil (Qb (Qa (Qo rfl rfl (by rfl) ?_)))))
 refine Qg rfl rfl (by repeat' constructor) (Bytes_spec _ (by omega)) ?_
 rintro _ _ ⟨rfl, rfl⟩
 simp only [Qr]
 refine Qe rfl rfl (WpL.nil (Qb (Wp.block ?_)))
 refine Qb (Qa (Qd rfl rfl (QO rfl rfl rfl (Qe rfl rfl (WpL.nil (QA rfl (by omega) ?_))))))
 refine Qb (Qa (Qd rfl rfl (QK rfl rfl (Qd rfl rfl (Q6 rfl rfl rfl (Qe rfl rfl (WpL.nil (QA rfl (by omega) ?_))))))))
 refine Wp.skip (Qb (Qa (XK rfl ?_)))
 intro g2
 refine WpL.nil (Qb (Qb (Qa (Qd rfl rfl (Qd rfl rfl (s_sll_h (H := bs.length) rfl rfl rfl (by omega) (by omega) ?_))))))
 refine Qg rfl rfl (by repeat' constructor) (all_spec A0 a c bs) ?_
 rintro _ _ ⟨gb, rfl, rfl⟩
 simp only [Qr]
 refine WpL.nil (Wp.block ?_)
 refine Wp.rangeF (encs := fun k : Nat => [.int .i64 (k : Int), .int .i64 (bitAt bs k)]) (xs := List.range (8 * bs.length)) (QG := [QB gb [.slice a bs.length c] 22, A0]) (own' := [QB gb [.slice a bs.length c] 22, A0]) (m0 := [QB g2 [.slice none 0 0] 26, QB g1 [.int .i64 (W : Int)] 3, QG 3 1 none 0 0 []]) rfl rfl (all_iter A0 a c bs hA hbs hbl gb) (fun _ => rfl) rfl (fun k m => ∃ a9 c9, m = [QB g2 [.slice a9 (min k W) c9] 26, QB g1 [.int .i64 (W : Int)] 3, QG 3 1 a9 c9 (min k W) (QU (ubits bs (min k W)))]) (fun _ _ _ => False) ?_ ?_ ?_ ?_ ?_
 ·exact ⟨none, 0, by rw [Nat.zero_min]; rfl⟩
 ·simp only [Qr]
  exact (Ent.own_nil (T := 3) (s := 1) (Ent.refl _)).trans (Take.ent' (by repeat' constructor))
 ·intro y k hk m hm
  obtain ⟨a9, c9, rfl⟩ := hm
  rw [List.getElem_range]
  rw [List.length_range] at hk
  refine Qb (Qa (Qe rfl rfl (WpL.nil (Qa (Qe rfl rfl (WpL.nil (⟨rfl, rfl, ?_⟩)))))))
  refine Wp.block ?_
  refine Qb (Qa (Qd rfl rfl (Qo rfl rfl (by rfl) ?_)))
  refine Q6 rfl rfl rfl (WpL.nil (Qm rfl (fun h3 => ?_) (fun h3 => ?_)))
  ·rw [Nat.min_eq_left (show k ≤ W by omega)]
   refine Qa (Qo rfl rfl (by rfl) ?_)
   refine Qd rfl rfl ?_
   refine Y4 rfl rfl rfl rfl ?_
   intro g3
   refine X9 rfl rfl rfl (by repeat' constructor) (by rfl) (by rfl) (by rfl) (by rfl) (by omega) (by omega) ?_
   intro a32 c32
   refine Q0 rfl rfl rfl (WpL.nil ?_)
   rw [ints_snoc, ubits_snoc]
   refine ⟨_, ⟨a32, c32, rfl⟩, ?_⟩
   rw [Nat.min_eq_left (show k + 1 ≤ W by omega)]
   exact Take.ent' (by repeat' constructor)
  ·rw [Nat.min_eq_right (show W ≤ k by omega)]
   refine Wp.skip (⟨_, ⟨a9, c9, rfl⟩, ?_⟩)
   rw [Nat.min_eq_right (show W ≤ k + 1 by omega)]
   exact Ent.refl _
 ·intro q1 m hm
  obtain ⟨a9, c9, rfl⟩ := hm
  rw [List.length_range]
  simp only [Qr]
  rw [Nat.min_eq_right (show W ≤ 8 * bs.length by omega)]
  refine Qb (Qa (Qo rfl rfl (by rfl) ?_))
  refine Qe rfl rfl (Qe rfl rfl (WpL.nil (Qh ?_)))
  apply RetQ.mkR [q1] rfl (by repeat' constructor)
  ·exact (QF rfl rfl rfl)
  ·exact ⟨a9, c9, rfl, rfl⟩
  ·exact Take.ent' (by repeat' constructor)
 ·exact fun _ _ _ _ _ h => h.elim

end Go.Proofs.YtggamdlpiejbiaaGreat
namespace Go.Proofs.YtggamdlpiejbiaaGreat
open Go.RowKit Go.Shelf

theorem u8s_zero (N : Nat) : List.replicate N (Value.int .u8 0) = Xn (List.replicate N 0) := by simp [Xn]
theorem outB_at (l : List Int) {n i k : Nat} (h : k < n) : (Xn (outB l n i))[k]? = some (.int .u8 (X8 (l.take i) k)) := by
  rw [YQ _ (by rw [outB_len]; exact h)]; simp [outB]

set_option maxHeartbeats 1000000 in
theorem PackB_spec (A0 : HP) (a : Option Addr) (c : Nat) (row : List Int) (hA : RdsL [A0] a (QU row)) (hb : ∀ x ∈ row, bitv x) (h1 : 1 ≤ row.length) (h2 : row.length ≤ 4096) : Fn Tryz.prog 144 #[.slice a row.length c] [A0] (fun v l => ∃ gB, v = .tuple #[.slice (some ⟨gB, 0, none⟩) ((row.length + 7) / 8) ((row.length + 7) / 8), .int .i64 0] ∧ l = [QG 5 1 (some ⟨gB, 0, none⟩) ((row.length + 7) / 8) ((row.length + 7) / 8) (Xn (packB row)), A0]) := by
 refine Qk (vs := [.slice a row.length c]) Tryz.func144 rfl Tryz.ntmps144 rfl (Qb (Qa (Qe rfl rfl (Qe rfl rfl (WpL.nil (Qb (Qb (Qa (Qd rfl rfl (QK rfl rfl (Qg rfl rfl (by repeat' constructor) (sized_spec _) ?_)))))))))))
 rintro _ _ ⟨rfl, rfl⟩
 simp only [Qr]
 refine XY rfl rfl (WpL.nil (QA rfl (fun hn => hn (by omega)) ?_))
 refine Wp.skip (Qb (Qa (Qd rfl rfl (QK rfl rfl (Qg rfl rfl (by repeat' constructor) (Bytes_spec _ (by omega)) ?_)))))
 rintro _ _ ⟨rfl, rfl⟩
 simp only [Qr]
 refine s_mko ((row.length + 7) / 8) rfl rfl (by omega) (by omega) (by omega) rfl ?_
 intro gB
 rw [u8s_zero, ← outB_zero row]
 refine Qe rfl rfl (WpL.nil (Qb (Qb (Qa (Qd rfl rfl (QK rfl rfl (Qd rfl rfl (WpL.nil (Wp.block ?_)))))))))
 refine Wp.loopD (σ := Nat) (fun k => k ≤ row.length) [2, 3, 5, 6, 17, 18, 19, 20, 21, 22, 23, 24, 25, 26, 27, 28, 29, 30, 31, 32, 33, 34, 35, 36, 37, 38, 39, 40, 41] (fun k => [(17, .int .i64 (k : Int))]) (fun k => [QG 5 1 (some ⟨gB, 0, none⟩) ((row.length + 7) / 8) ((row.length + 7) / 8) (Xn (outB row ((row.length + 7) / 8) k)), A0]) (fun k => row.length - k) 0 ?_ (by repeat (first | exact FrLe.nil | refine FrLe.cons rfl ?_)) ?_ ?_
 ·exact Nat.zero_le _
 ·exact Ent.refl _
 ·rintro k hk
  refine Qb (Qa (Q6 rfl rfl rfl (WpL.nil (Qb (Qm rfl (fun h2 => ?_) (fun h2 => ?_))))))
  ·have hlt : k < row.length := by omega
   have hbk := hb _ (List.getElem_mem hlt)
   refine Wp.skip (Qb (Wp.block ?_))
   refine Qb (Qa (Qd rfl rfl (Q3 k rfl rfl rfl hA (by exact Take.ent' (by repeat' constructor)) rfl (by omega) (by rw [QX]; omega) ?_)))
   refine Xb rfl rfl hA (by exact Take.ent' (by repeat' constructor)) (XX row hlt) ?_
   refine Qe rfl rfl (Qe rfl rfl (WpL.nil ?_))
   refine Wp.cut (True) [2, 3, 22, 23, 24, 25, 26, 27] ?_ (fun hc3 => ?_)
   ·refine Qb (Qa (Qd rfl rfl (Xj rfl rfl rfl (Qd rfl rfl (QH rfl rfl rfl (fun hg1 => ?_) (fun hg1 => ?_))))))
    ·have hg1 := of_decide_eq_true hg1
     refine Qd rfl rfl (Qf rfl rfl (Xj rfl rfl rfl (Qx rfl rfl rfl (WpL.nil (QA rfl (by have := hbk; unfold bitv at this; omega) ?_)))))
     refine Wp.skip ?_
     refine Zd ?_ (by ((repeat (first | exact Top.refl | refine Top.push rfl ?_)); done)) (by exact Ent.refl _)
     exact trivial
    ·have hg1 := of_decide_eq_false hg1
     refine Qc rfl rfl rfl (by decide) (Qq rfl rfl rfl (WpL.nil (QV rfl (Wp.skip ?_))))
     refine Zd ?_ (by ((repeat (first | exact Top.refl | refine Top.push rfl ?_)); done)) (by exact Ent.refl _)
     exact trivial
   ·obtain ⟨q, hq⟩ := byteAt_mul hlt
    have hbt := byteAt_bd (l := row.take k) (fun x hx => hb x (List.mem_of_mem_take hx)) (k / 8)
    have hbt2 := byteAt_bd (l := row.take (k + 1)) (fun x hx => hb x (List.mem_of_mem_take hx)) (k / 8)
    have hst := byteAt_step hlt
    have hp0 := two_pos (7 - k % 8)
    have hp1 := two_pos (7 - k % 8 + 1)
    have hp7 : (2 : Int) ^ (7 - k % 8) ≤ 128 := by exact_mod_cast Nat.pow_le_pow_right (show 0 < 2 by decide) (show 7 - k % 8 ≤ 7 by omega)
    have hm0 : 0 ≤ row[k] * 2 ^ (7 - k % 8) ∧ row[k] * 2 ^ (7 - k % 8) ≤ 128 := by
     have := hbk
     unfold bitv at this
     rcases this with e | e <;> rw [e] <;> omega
    have hq0 : 0 ≤ q := by
     rcases Int.lt_or_le q 0 with h | h
     ·have := Int.mul_neg_of_neg_of_pos h hp1; omega
     ·exact h
    have hor := or_bits (s := 7 - k % 8) hq0 hbk
    rw [← hq] at hor
    apply Xe (fB := []) mixed [(13, false)] (by kernel_rfl)
    apply Q9 [⟨0, 28, _, [], false⟩, ⟨1, 29, _, [], false⟩, ⟨2, 30, _, [1], false⟩, ⟨3, 31, _, [0, 2], false⟩, ⟨4, 32, _, [3], false⟩, ⟨5, 33, _, [], false⟩, ⟨6, 34, _, [], false⟩, ⟨7, 35, _, [6], false⟩, ⟨8, 36, _, [7], false⟩, ⟨9, 37, _, [5, 8], false⟩, ⟨10, 38, _, [9], false⟩, ⟨11, 39, _, [4, 10], false⟩, ⟨12, 40, _, [0, 1, 2, 3, 4, 5, 6, 7, 8, 9, 10, 11], false⟩] [] [0, 1, 2, 3, 4, 5, 6, 7, 8, 9, 10, 11, 12] [] (.inr rfl) rfl rfl rfl (by kernel_rfl) rfl rfl rfl
    ·refine AllF.cons rfl rfl rfl rfl ?_ ?_
     ·exact Qd rfl rfl (Ql rfl)
     refine AllF.cons rfl rfl rfl rfl ?_ ?_
     ·exact Qd rfl rfl (Ql rfl)
     refine AllF.cons rfl rfl rfl rfl ?_ ?_
     ·refine Y5 rfl rfl rfl (by omega) (by omega) (Qt (by omega) (by omega)) ?_
      rw [show (k : Int) / 8 = ((k / 8 : Nat) : Int) from rfl]
      exact Ql rfl
     refine AllF.cons rfl rfl rfl rfl ?_ ?_
     ·refine Q3 (k / 8) rfl rfl rfl QI (by exact Take.ent' (by repeat' constructor)) rfl (by omega) (by rw [Q1, outB_len]; omega) ?_
      exact Ql rfl
     refine AllF.cons rfl rfl rfl rfl ?_ ?_
     ·refine Xb rfl rfl QI (by exact Take.ent' (by repeat' constructor)) (outB_at row (by omega)) ?_
      exact Ql rfl
     refine AllF.cons rfl rfl rfl rfl ?_ ?_
     ·exact Qd rfl rfl (Ql rfl)
     refine AllF.cons rfl rfl rfl rfl ?_ ?_
     ·exact Qd rfl rfl (Ql rfl)
     refine AllF.cons rfl rfl rfl rfl ?_ ?_
     ·refine Y6 rfl rfl rfl (by omega) (by omega) ?_
      exact Ql rfl
     refine AllF.cons rfl rfl rfl rfl ?_ ?_
     ·refine Yz rfl rfl rfl (Qt (by omega) (by omega)) ?_
      exact Ql rfl
     refine AllF.cons rfl rfl rfl rfl ?_ ?_
     ·refine s_shl (2 ^ (7 - k % 8)) rfl rfl rfl ⟨by omega, by simp only [IntKind.bits]; omega, by rw [show (7 - (k : Int) % 8).toNat = 7 - k % 8 by omega]⟩ (Qt (by omega) (by omega)) ?_
      exact Ql rfl
     refine AllF.cons rfl rfl rfl rfl ?_ ?_
     ·refine Ya rfl Tryz.underlying3 rfl (w_u8 (by omega) (by omega)) ?_
      exact Ql rfl
     refine AllF.cons rfl rfl rfl rfl ?_ ?_
     ·refine s_orv (X8 (row.take k) (k / 8) + row[k] * 2 ^ (7 - k % 8)) rfl rfl rfl ⟨hbt.1, by simp only [IntKind.bits]; omega⟩ ⟨hm0.1, by simp only [IntKind.bits]; omega⟩ hor (w_u8 (by omega) (by omega)) ?_
      exact Ql rfl
     refine AllF.cons rfl rfl rfl rfl ?_ ?_
     ·refine Q3 (k / 8) rfl rfl rfl QI (by exact Take.ent' (by repeat' constructor)) rfl (by omega) (by rw [Q1, outB_len]; omega) ?_
      exact Ql rfl
     exact AllF.nil
    ·refine s_sto rfl rfl rfl (by repeat' constructor) (by rw [Q1, outB_len]; omega) ?_
     refine WpL.nil ⟨rfl, rfl, ?_⟩
     apply GoR.nil [] (.inr rfl) rfl rfl
     ·exact AllF.nil
     ·refine Qa (QE rfl rfl rfl (Qt (by omega) (by omega)) ?_)
      refine Qd rfl rfl (WpL.nil ?_)
      rw [u8s_set, outB_step hlt (by omega)]
      refine Qy (k + 1) ?_ ?_ (by ((repeat (first | exact Top.refl | refine Top.push rfl ?_)); done)) (by repeat (first | exact FrLe.nil | refine FrLe.cons rfl ?_)) ?_
      ·omega
      ·omega
      ·exact Ent.refl _
  ·have hke : k = row.length := by omega
   rw [hke, outB_all]
   refine QL (Qb (Qa (Qd rfl rfl (Qe rfl rfl (Qe rfl rfl (WpL.nil (Qh ?_)))))))
   apply RetQ.mk
   ·exact (QF rfl rfl rfl)
   ·exact ⟨gB, rfl, rfl⟩
   ·exact Ent.refl _

end Go.Proofs.YtggamdlpiejbiaaGreat
namespace Go.Proofs.YtggamdlpiejbiaaGreat
open Go.RowKit Go.Shelf

theorem Zs (k ch : Nat) : (k + 1) * ch = k * ch + ch := by rw [Nat.add_mul, Nat.one_mul]

set_option maxHeartbeats 1000000 in
theorem chunkF_spec (a : Option Addr) (c N ch W : Nat) (hch : 1 ≤ ch) (hN : N = W * ch) (hNc : N ≤ c) (hNb : N ≤ 1000000000) (gs gn y : Nat) (J Jx : Nat → List HP → Prop) (hY : ∀ k (_ : k < W) m, J k m → Yld Tryz.prog y ([.slice (sla a (k * ch) ((k + 1) * ch) 1) ch ch] : List Value).toArray m (rdR J Jx k)) (m0 : List HP) (h0 : J 0 m0) : Fn Tryz.prog 204 #[.func (.yield y) #[] #[], .pointer (some ⟨gs, 0, none⟩), .pointer (some ⟨gn, 0, none⟩)] (QB gs [.slice a N c] 26 :: QB gn [.int .i64 (ch : Int)] 3 :: m0) (fun _ l => ∃ m', (J W m' ∨ ∃ k, k < W ∧ Jx k m') ∧ l = QB gs [.slice a N c] 26 :: QB gn [.int .i64 (ch : Int)] 3 :: m') := by
 refine Qk (vs := [.func (.yield y) #[] #[], .pointer (some ⟨gs, 0, none⟩), .pointer (some ⟨gn, 0, none⟩)]) Tryz.func204 rfl Tryz.ntmps204 rfl ?_
 refine Qb (Qa (Qe rfl rfl (WpL.nil (Wp.block ?_))))
 refine Wp.loopD (σ := NmX) (fun x => x.k ≤ W ∧ J x.k x.m) [4, 5, 6, 7, 8, 9, 10, 11, 12, 13, 14, 15, 16, 17, 18, 19, 20, 21, 22, 23, 24, 25, 26, 27, 28, 29, 30] (fun x => [(4, .int .i64 ((x.k * ch : Nat) : Int))]) (fun x => QB gs [.slice a N c] 26 :: QB gn [.int .i64 (ch : Int)] 3 :: x.m) (fun x => W - x.k) ⟨0, m0⟩ ?_ (FrLe.cons (by rw [Nat.zero_mul]; rfl) FrLe.nil) ?_ ?_
 ·exact ⟨Nat.zero_le _, h0⟩
 ·exact Ent.refl _
 ·rintro ⟨k, m1⟩ ⟨hk, hJ⟩
  dsimp only at hk hJ ⊢
  have hkN : k * ch ≤ N := by rw [hN]; exact Nat.mul_le_mul_right _ hk
  refine Qb (Qb (Qa (Qd rfl rfl (Qo rfl rfl (by rfl) ?_))))
  refine QK rfl rfl (Q6 rfl rfl rfl (WpL.nil (Qm rfl (fun h1 => ?_) (fun h1 => ?_))))
  ·have hlt : k < W := by
    rcases Nat.lt_or_ge k W with h | h
    ·exact h
    ·have := Nat.mul_le_mul_right ch h; omega
   have hkN1 : (k + 1) * ch ≤ N := by rw [hN]; exact Nat.mul_le_mul_right _ hlt
   have hks := Zs k ch
   have hY1 := hY k hlt m1 hJ
   refine Wp.skip (Qb (Wp.block ?_))
   refine Qb ?_
   apply QS mixed [⟨13, _, []⟩, ⟨14, _, []⟩, ⟨15, _, []⟩, ⟨16, _, [1, 2]⟩, ⟨17, _, [3]⟩, ⟨18, _, [0, 4]⟩, ⟨5, _, [5, 0, 1, 2, 3, 4]⟩] rfl
   ·refine AllObs.mk ?_ ?_
    ·refine Qo rfl rfl (by rfl) ?_
     exact Ql rfl
    refine AllObs.mk ?_ ?_
    ·refine Qo rfl rfl (by rfl) ?_
     exact Ql rfl
    refine AllObs.mk ?_ ?_
    ·exact Qd rfl rfl (Ql rfl)
    refine AllObs.mk ?_ ?_
    ·exact s_sll_l (L := k * ch) rfl rfl rfl rfl hkN (Ql rfl)
    refine AllObs.mk ?_ ?_
    ·exact QK rfl rfl (WpL.nil ⟨rfl, rfl, rfl, by exact Ent.refl _⟩)
    refine AllObs.mk ?_ ?_
    ·refine s_min2 rfl rfl rfl ?_
     rw [show min (ch : Int) ((N - k * ch : Nat) : Int) = (ch : Int) by omega]
     exact WpL.nil ⟨rfl, rfl, rfl, by exact Ent.refl _⟩
    refine AllObs.mk ?_ ?_
    ·exact Qe rfl rfl (Ql rfl)
    exact AllObs.nil
   ·refine Qb (Qa (Qd rfl rfl (Qo rfl rfl (by rfl) ?_)))
    refine Qd rfl rfl (Qd rfl rfl (Qd rfl rfl (QE rfl rfl rfl (Qt (by omega) (by omega)) ?_)))
    rw [show ((k * ch : Nat) : Int) + (ch : Int) = (((k + 1) * ch : Nat) : Int) by omega]
    refine Qd rfl rfl (Qd rfl rfl (QE rfl rfl rfl (Qt (by omega) (by omega)) ?_))
    rw [show ((k * ch : Nat) : Int) + (ch : Int) = (((k + 1) * ch : Nat) : Int) by omega]
    refine s_sll_lhm (L := k * ch) (H := (k + 1) * ch) (M := (k + 1) * ch) rfl rfl rfl rfl rfl rfl rfl rfl (by omega) (by omega) (by omega) ?_
    rw [show (k + 1) * ch - k * ch = ch by omega]
    refine s_yield rfl rfl rfl rfl (by repeat (first | exact Take.all | apply Take.skip)) (hY1) ?_
    rintro v m' (⟨rfl, hm'⟩ | ⟨rfl, hm'⟩)
    ·simp only [Qr]
     refine YM rfl rfl (WpL.nil (QV rfl (Wp.skip (Qa (Qd rfl rfl (Qo rfl rfl (by rfl) ?_))))))
     refine QE rfl rfl rfl (Qt (by omega) (by omega)) ?_
     refine Qe rfl rfl (WpL.nil (Qy (⟨k + 1, m'⟩ : NmX) ?_ ?_ (by ((repeat (first | exact Top.refl | refine Top.push rfl ?_)); done)) (FrLe.cons (by exact congrArg (fun x => some (Value.int .i64 x)) (by rw [Zs]; push_cast; rfl)) FrLe.nil) ?_))
     ·exact ⟨by simp only; omega, hm'⟩
     ·simp only; omega
     ·exact Ent.refl _
    ·simp only [Qr]
     refine YM rfl rfl (WpL.nil (XG rfl (Qh ?_)))
     apply RetQ.mk
     ·exact (XQ rfl)
     ·exact ⟨m', .inr ⟨_, hlt, hm'⟩, rfl⟩
     ·exact Ent.refl _
  ·refine QL ?_
   apply Yr
   ·exact (XQ rfl)
   ·have hke : k = W := by
     rcases Nat.lt_or_ge k W with h | h
     ·exfalso; have h9 := Nat.mul_le_mul_right ch (show k + 1 ≤ W from h); rw [Zs] at h9; omega
     ·omega
    rw [hke] at hJ
    exact ⟨m1, .inl hJ, rfl⟩
   ·exact Ent.refl _


theorem chunk_iter (a : Option Addr) (c N ch W : Nat) (hch : 1 ≤ ch) (hN : N = W * ch) (hNc : N ≤ c) (hNb : N ≤ 1000000000) (gs gn : Nat) :
    Iter Tryz.prog 204 [.pointer (some ⟨gs, 0, none⟩), .pointer (some ⟨gn, 0, none⟩)] (fun k : Nat => [.slice (sla a (k * ch) ((k + 1) * ch) 1) ch ch]) (List.range W) [QB gs [.slice a N c] 26, QB gn [.int .i64 (ch : Int)] 3] [QB gs [.slice a N c] 26, QB gn [.int .i64 (ch : Int)] 3] := by
  intro y J Jx hY m h0
  have hl : (List.range W).length = W := List.length_range
  rw [hl]
  have h := chunkF_spec a c N ch W hch hN hNc hNb gs gn y J Jx (fun k hk m hJ => by have := hY k (by rw [hl]; exact hk) m hJ; simpa using this) m h0
  exact h.mono fun v l hv => ⟨l, by obtain ⟨m', hm, rfl⟩ := hv; exact ⟨m', hm, rfl⟩, Ent.refl _⟩

theorem chunk_spec (a : Option Addr) (c N ch : Nat) (hch : 1 ≤ ch) : Fn Tryz.prog 195 #[.slice a N c, .int .i64 (ch : Int)] [] (fun v l => ∃ gs gn, v = .func (.func 204) #[] #[.pointer (some ⟨gs, 0, none⟩), .pointer (some ⟨gn, 0, none⟩)] ∧ l = [QB gs [.slice a N c] 26, QB gn [.int .i64 (ch : Int)] 3]) := by
 refine Qk (vs := [.slice a N c, .int .i64 (ch : Int)]) Tryz.func195 rfl Tryz.ntmps195 rfl (Qb (Qa (QP rfl rfl rfl ?_)))
 intro g1
 refine QP rfl rfl rfl ?_
 intro g2
 refine Qe rfl rfl (WpL.nil (Qb (Qb (Qa (Qo rfl rfl (by rfl) ?_)))))
 refine Q6 rfl rfl rfl (WpL.nil (QA rfl (by omega) ?_))
 refine Wp.skip (Qb (Qa (s_mkf rfl (fun a hh => XO hh _ _ rfl) ?_)))
 refine Qe rfl rfl (WpL.nil (Qh ?_))
 apply RetQ.mk
 ·exact (Res.one rfl rfl)
 ·exact ⟨_, _, rfl, rfl⟩
 ·exact Take.ent' (by repeat' constructor)

end Go.Proofs.YtggamdlpiejbiaaGreat
namespace Go.Proofs.YtggamdlpiejbiaaGreat
open Go.RowKit Go.Shelf


def RawH (K W H M : Int) : Prop := X6 K W H M ∧ 4 ≤ K
theorem RawH.bd {K W H M : Int} (h : RawH K W H M) : (4 ≤ K ∧ K ≤ 6) ∧ (1 ≤ W ∧ W ≤ 4096) ∧ (1 ≤ H ∧ H ≤ 65536) ∧ (1 ≤ M ∧ M ≤ 65535) ∧ (K = 4 → M = 1) := by
  obtain ⟨h1, h2⟩ := h
  unfold X6 at h1
  omega
theorem Ye (K : Int) : QZ K = 1 ∨ QZ K = 3 := by unfold QZ; split <;> simp
theorem XZ {K : Int} {W w : Nat} (hw : w = 1 ∨ w = 2) (h1 : 1 ≤ W) (h2 : W ≤ 4096) : 1 ≤ QD K W w ∧ QD K W w ≤ 24576 := by
  have hch := Ye K
  unfold QD
  split
  · omega
  · rcases hch with e | e <;> rw [e] <;> rcases hw with rfl | rfl <;> simp <;> omega
theorem strd_int {K : Int} {W w : Nat} (h : K ≠ 4) : ((QD K W w : Nat) : Int) = (W : Int) * QZ K * (w : Int) := by
  have hch := Ye K
  unfold QD
  rw [if_neg h]
  push_cast
  rw [Int.toNat_of_nonneg (by omega)]

theorem Yl (K W H M : Int) : Fn Tryz.prog 145 #[.agg #[.int .i64 K, .int .i64 W, .int .i64 H, .int .i64 M]] [] (fun v l => v = .int .i64 ((Qi M : Nat) : Int) ∧ l = []) := by
 refine Qk (vs := [.agg #[.int .i64 K, .int .i64 W, .int .i64 H, .int .i64 M]]) Tryz.func145 rfl Tryz.ntmps145 rfl (Qb (Qa (QP rfl rfl rfl ?_)))
 intro g1
 refine Qe rfl rfl (WpL.nil (Qb (Qb (Qa (Qj (o2 := 3) rfl rfl rfl (Qo rfl rfl (by rfl) ?_))))))
 refine s_gt rfl rfl rfl (WpL.nil (Qm rfl (fun h0 => ?_) (fun h0 => ?_)))
 ·refine Qb (Qa (Qe rfl rfl (WpL.nil (Qh ?_))))
  apply RetQ.mk
  ·exact (Res.one rfl rfl)
  ·exact ⟨by unfold Qi; (rw [if_pos (by omega)]; rfl), rfl⟩
  ·exact Ent.nil _
 ·refine Wp.skip (Qb (Qa (Qe rfl rfl (WpL.nil (Qh ?_)))))
  apply RetQ.mk
  ·exact (Res.one rfl rfl)
  ·exact ⟨by unfold Qi; (rw [if_neg (by omega)]; rfl), rfl⟩
  ·exact Ent.nil _

theorem Zb (K : Int) (W : Nat) (H M : Int) (hR : RawH K (W : Int) H M) : Fn Tryz.prog 146 #[.agg #[.int .i64 K, .int .i64 (W : Int), .int .i64 H, .int .i64 M]] [] (fun v l => v = .int .i64 ((QD K W (Qi M) : Nat) : Int) ∧ l = []) := by
 have hb := hR.bd
 have hch := Ye K
 have hw := Q4 M
 have hm1 : 0 ≤ (W : Int) * QZ K ∧ (W : Int) * QZ K ≤ 12288 := by rcases hch with e | e <;> rw [e] <;> omega
 have hm2 : 0 ≤ (W : Int) * QZ K * ((Qi M : Nat) : Int) ∧ (W : Int) * QZ K * ((Qi M : Nat) : Int) ≤ 24576 := by rcases hw with e | e <;> rw [e] <;> omega
 refine Qk (vs := [.agg #[.int .i64 K, .int .i64 (W : Int), .int .i64 H, .int .i64 M]]) Tryz.func146 rfl Tryz.ntmps146 rfl (Qb (Qa (QP rfl rfl rfl ?_)))
 intro g1
 refine Qe rfl rfl (WpL.nil (Qb (Wp.block ?_)))
 refine Qb (Qa ?_)
 refine Qz (vs := [_, _, _, _]) rfl rfl rfl (by rfl) ?_
 refine Qg rfl rfl (by repeat' constructor) (Y0 _ _ _ _) ?_
 rintro _ _ ⟨rfl, rfl⟩
 simp only [Qr]
 refine XY rfl rfl (Qe rfl rfl (WpL.nil (QA rfl (fun hn => hn (by omega)) ?_)))
 refine Qb (Qa (Qj (o2 := 0) rfl rfl rfl (Qo rfl rfl (by rfl) ?_)))
 refine QO rfl rfl rfl (Qe rfl rfl (WpL.nil (Qm rfl (fun h1 => ?_) (fun h1 => ?_))))
 ·refine Qb (Qa (Qj (o2 := 1) rfl rfl rfl (Qo rfl rfl (by rfl) ?_)))
  refine Qg rfl rfl (by repeat' constructor) (Bytes_spec _ (by omega)) ?_
  rintro _ _ ⟨rfl, rfl⟩
  simp only [Qr]
  refine Qe rfl rfl (WpL.nil (Qh ?_))
  apply RetQ.mk
  ·exact (Res.one rfl rfl)
  ·exact ⟨by rw [show QD K W (Qi M) = (W + 7) / 8 from if_pos h1]; rfl, rfl⟩
  ·exact Ent.nil _
 ·refine Wp.skip (Qb ?_)
  apply QS mixed [⟨14, _, []⟩, ⟨15, _, [0]⟩, ⟨16, _, []⟩, ⟨17, _, [2]⟩, ⟨18, _, [3]⟩, ⟨19, _, [1, 4]⟩, ⟨20, _, []⟩, ⟨21, _, [6, 3]⟩, ⟨22, _, [5, 7]⟩, ⟨2, _, [8, 7, 0, 1, 2, 3, 4, 5, 6]⟩] rfl
  ·refine AllObs.mk ?_ ?_
   ·exact Qj (o2 := 1) rfl rfl rfl (Ql rfl)
   refine AllObs.mk ?_ ?_
   ·refine Qo rfl rfl (by rfl) ?_
    exact Ql rfl
   refine AllObs.mk ?_ ?_
   ·refine Qz (vs := [_, _, _, _]) rfl rfl rfl (by rfl) ?_
    exact Ql rfl
   refine AllObs.mk ?_ ?_
   ·refine Qg rfl rfl (by repeat' constructor) (Xo _ _ _ _ (by omega)) ?_
    rintro _ _ ⟨rfl, rfl⟩
    simp only [Qr]
    rw [show (if K % 3 = 0 then (3 : Int) else 1) = QZ K from rfl]
    exact WpL.nil ⟨rfl, rfl, rfl, by exact Ent.refl _⟩
   refine AllObs.mk ?_ ?_
   ·exact s_fv rfl rfl rfl (Ql rfl)
   refine AllObs.mk ?_ ?_
   ·refine Xz rfl rfl rfl (Qt (by omega) (by omega)) ?_
    exact Ql rfl
   refine AllObs.mk ?_ ?_
   ·refine Qz (vs := [_, _, _, _]) rfl rfl rfl (by rfl) ?_
    exact Ql rfl
   refine AllObs.mk ?_ ?_
   ·refine Qg rfl rfl (by repeat' constructor) (Yl _ _ _ _) ?_
    rintro _ _ ⟨rfl, rfl⟩
    simp only [Qr]
    exact WpL.nil ⟨rfl, rfl, rfl, by exact Ent.refl _⟩
   refine AllObs.mk ?_ ?_
   ·refine Xz rfl rfl rfl (Qt (by omega) (by omega)) ?_
    exact Ql rfl
   refine AllObs.mk ?_ ?_
   ·exact Qe rfl rfl (Ql rfl)
   exact AllObs.nil
  ·refine Qh ?_
   apply RetQ.mk
   ·exact (Res.one rfl rfl)
   ·exact ⟨by rw [strd_int h1], rfl⟩
   ·exact Ent.nil _

end Go.Proofs.YtggamdlpiejbiaaGreat
namespace Go.Proofs.YtggamdlpiejbiaaGreat
open Go.RowKit Go.Shelf

theorem Za (K : Int) (W : Nat) (H M : Int) (hR : RawH K (W : Int) H M) : Fn Tryz.prog 124 #[.agg #[.int .i64 K, .int .i64 (W : Int), .int .i64 H, .int .i64 M]] [] (fun v l => ∃ g g2 b0, (b0 : List Int).length = QD K W (Qi M) ∧ (∀ x ∈ b0, x = 0) ∧ v = .tuple #[.pointer (some ⟨g, 0, none⟩), .int .i64 0] ∧ l = [QB g [.int .i64 K, .int .i64 (W : Int), .int .i64 H, .int .i64 M, .slice (some ⟨g2, 0, none⟩) b0.length b0.length, .int .i64 0, .int .i64 0, .int .i64 0, .int .i64 0] 198, QG 5 1 (some ⟨g2, 0, none⟩) b0.length b0.length (Xn b0)]) := by
 have hb := hR.bd
 have hch := Ye K
 have hw := Q4 M
 have hsb := XZ (K := K) (W := W) hw (by omega) (by omega)
 refine Qk (vs := [.agg #[.int .i64 K, .int .i64 (W : Int), .int .i64 H, .int .i64 M]]) Tryz.func124 rfl Tryz.ntmps124 rfl (Qb (Qa (QP rfl rfl rfl ?_)))
 intro g1
 refine Qe rfl rfl (Qe rfl rfl (WpL.nil (Qb (Qb (Qa ?_)))))
 refine Qz (vs := [_, _, _, _]) rfl rfl rfl (by rfl) ?_
 refine Qg rfl rfl (by repeat' constructor) (May_spec _ _ _ _) ?_
 rintro _ _ ⟨rfl, rfl⟩
 simp only [Qr]
 rw [decide_eq_true hR.1]
 refine YM rfl rfl (Qd rfl rfl (Qf rfl rfl ?_))
 refine Qz (vs := [_, _, _, _]) rfl rfl rfl (by rfl) ?_
 refine Qf rfl rfl (Qg rfl rfl (by repeat' constructor) (Y0 _ _ _ _) ?_)
 rintro _ _ ⟨rfl, rfl⟩
 simp only [Qr]
 refine Qf rfl rfl (XY rfl rfl (Qq rfl rfl rfl (WpL.nil (QA rfl (fun hn => hn (by omega)) ?_))))
 refine Wp.skip (Qb ?_)
 apply Xe (fB := [QB g1 [.int .i64 K, .int .i64 (W : Int), .int .i64 H, .int .i64 M] 98]) mixed [(3, false), (1, false)] (by kernel_rfl)
 apply Q9 [⟨0, 12, _, [], true⟩, ⟨1, 13, _, [], false⟩, ⟨2, 14, _, [1], false⟩] [] [1, 2] [16, 17, 2, 3, 12] (.inl ⟨_, by repeat' constructor⟩) rfl rfl rfl (by kernel_rfl) rfl rfl rfl
 ·refine Xc rfl rfl rfl rfl ?_ ?_
  ·refine Qz (vs := [_, _, _, _]) rfl rfl rfl (by rfl) ?_
   exact Ql rfl
  refine AllF.cons rfl rfl rfl rfl ?_ ?_
  ·refine Qz (vs := [_, _, _, _]) rfl rfl rfl (by rfl) ?_
   exact Ql rfl
  refine AllF.cons rfl rfl rfl rfl ?_ ?_
  ·refine Qg rfl rfl (by repeat' constructor) (Zb _ _ _ _ hR) ?_
   rintro _ _ ⟨rfl, rfl⟩
   simp only [Qr]
   exact WpL.nil ⟨rfl, rfl, rfl, by exact Ent.refl _⟩
  exact AllF.nil
 ·refine s_mko (QD K W (Qi M)) rfl rfl rfl (by omega) (by omega) rfl ?_
  intro gB
  rw [u8s_zero]
  refine WpL.nil ⟨rfl, rfl, ?_⟩
  apply Q9 [⟨4, 16, _, [0, 3], false⟩] [0] [0, 4] [2, 3] (.inl ⟨_, by repeat' constructor⟩) rfl rfl rfl (by kernel_rfl) rfl rfl rfl
  ·refine AllF.cons rfl rfl rfl rfl ?_ ?_
   ·refine XN rfl rfl ?_
    exact Ql rfl
   exact AllF.nil
  ·refine QP rfl rfl rfl ?_
   intro g2
   refine WpL.nil ⟨rfl, rfl, ?_⟩
   apply GoR.nil [⟨6, 2, _, [0, 1, 2, 3, 4, 5], false⟩, ⟨7, 3, _, [0, 1, 2, 3, 4, 5, 6], false⟩] (.inr rfl) rfl rfl
   ·refine AllF.cons rfl rfl rfl rfl ?_ ?_
    ·exact Qe rfl rfl (Ql rfl)
    refine AllF.cons rfl rfl rfl rfl ?_ ?_
    ·exact Qe rfl rfl (Ql rfl)
    exact AllF.nil
   ·refine Qh ?_
    obtain ⟨b0, hb0e, hb0l⟩ : ∃ b0 : List Int, b0 = List.replicate (QD K W (Qi M)) 0 ∧ b0.length = QD K W (Qi M) := ⟨_, rfl, by simp⟩
    rw [← hb0e, ← hb0l]
    apply RetQ.mk
    ·exact (QF rfl rfl rfl)
    ·exact ⟨_, gB, b0, rfl, fun x hx => by rw [hb0e] at hx; exact (List.mem_replicate.1 hx).2, rfl, rfl⟩
    ·exact Take.ent' (by repeat' constructor)

theorem RawSample_spec (K : Int) (W : Nat) (H M : Int) (_hR : RawH K (W : Int) H M) (g : Nat) (a1 : Option Addr) (c1 : Nat) (bs : List Int) (hbs : ∀ x ∈ bs, 0 ≤ x ∧ x ≤ 255) (hbl : bs.length ≤ 100000) (n rows last e : Int) (i : Nat) (hi : (i + 1) * Qi M ≤ bs.length) : Fn Tryz.prog 167 #[.pointer (some ⟨g, 0, none⟩), .int .i64 (i : Int)] [QB g [.int .i64 K, .int .i64 (W : Int), .int .i64 H, .int .i64 M, .slice a1 bs.length c1, .int .i64 n, .int .i64 rows, .int .i64 last, .int .i64 e] 198, QG 5 1 a1 c1 bs.length (Xn bs)] (fun v l => v = .int .i64 (XH (Qi M) bs i) ∧ l = [QB g [.int .i64 K, .int .i64 (W : Int), .int .i64 H, .int .i64 M, .slice a1 bs.length c1, .int .i64 n, .int .i64 rows, .int .i64 last, .int .i64 e] 198, QG 5 1 a1 c1 bs.length (Xn bs)]) := by
 have hw := Q4 M
 refine Qk (vs := [.pointer (some ⟨g, 0, none⟩), .int .i64 (i : Int)]) Tryz.func167 rfl Tryz.ntmps167 rfl ?_
 refine Qb (Qa (Qe rfl rfl (WpL.nil (Qb (Qb (Qa (Qd rfl rfl (Qs rfl rfl (Qj (o2 := 0) rfl rfl rfl ?_)))))))))
 refine Qz (vs := [_, _, _, _]) rfl rfl rfl (by rfl) ?_
 refine Qg rfl rfl (by repeat' constructor) (Yl _ _ _ _) ?_
 rintro _ _ ⟨rfl, rfl⟩
 simp only [Qr]
 refine QO rfl rfl rfl (WpL.nil (Qm rfl (fun h0 => ?_) (fun h0 => ?_)))
 ·have hw1 : Qi M = 1 := by omega
  rw [hw1] at hi
  have hlt : i < bs.length := by omega
  have hx := hbs _ (List.getElem_mem hlt)
  refine Qb (Qa (Qd rfl rfl (Qs rfl rfl (Qj (o2 := 4) rfl rfl rfl (Qo rfl rfl (by rfl) ?_)))))
  refine Qd rfl rfl (Q3 i rfl rfl rfl QI (by exact Take.ent' (by repeat' constructor)) rfl (by omega) (by rw [Q1]; omega) ?_)
  refine Xb rfl rfl QI (by exact Take.ent' (by repeat' constructor)) (YQ bs hlt) ?_
  refine Ya rfl Tryz.underlying5 rfl (Qt (by omega) (by omega)) ?_
  refine Qe rfl rfl (WpL.nil (Qh ?_))
  apply RetQ.mk
  ·exact (Res.one rfl rfl)
  ·exact ⟨by rw [hw1]; unfold XH; rw [if_pos rfl, List.getElem?_eq_getElem hlt]; rfl, rfl⟩
  ·exact Ent.refl _
 ·have hw2 : Qi M = 2 := by omega
  rw [hw2] at hi
  have hlt : 2 * i < bs.length := by omega
  have hlt2 : 2 * i + 1 < bs.length := by omega
  have hx := hbs _ (List.getElem_mem hlt)
  have hx2 := hbs _ (List.getElem_mem hlt2)
  refine Wp.skip (Qb ?_)
  apply QS mixed [⟨19, _, []⟩, ⟨20, _, [0]⟩, ⟨21, _, [1]⟩, ⟨22, _, [2]⟩, ⟨23, _, []⟩, ⟨24, _, [4]⟩, ⟨25, _, [3, 5]⟩, ⟨26, _, [6]⟩, ⟨27, _, [7]⟩, ⟨28, _, [8]⟩, ⟨29, _, []⟩, ⟨30, _, [10]⟩, ⟨31, _, [11]⟩, ⟨32, _, [12]⟩, ⟨33, _, []⟩, ⟨34, _, [14]⟩, ⟨35, _, [15]⟩, ⟨36, _, [13, 16]⟩, ⟨37, _, [17]⟩, ⟨38, _, [18]⟩, ⟨39, _, [9, 19]⟩, ⟨4, _, [20, 0, 1, 2, 3, 4, 5, 6, 7, 8, 9, 10, 11, 12, 13, 14, 15, 16, 17, 18, 19]⟩] rfl
  ·refine AllObs.mk ?_ ?_
   ·exact Qd rfl rfl (Ql rfl)
   refine AllObs.mk ?_ ?_
   ·exact Qs rfl rfl (Ql rfl)
   refine AllObs.mk ?_ ?_
   ·exact Qj (o2 := 4) rfl rfl rfl (Ql rfl)
   refine AllObs.mk ?_ ?_
   ·refine Qo rfl rfl (by rfl) ?_
    exact Ql rfl
   refine AllObs.mk ?_ ?_
   ·exact Qd rfl rfl (Ql rfl)
   refine AllObs.mk ?_ ?_
   ·refine Xz rfl rfl rfl (Qt (by omega) (by omega)) ?_
    exact Ql rfl
   refine AllObs.mk ?_ ?_
   ·refine Q3 (2 * i) rfl rfl rfl QI (by exact Take.ent' (by repeat' constructor)) (by omega) (by omega) (by rw [Q1]; omega) ?_
    exact Ql rfl
   refine AllObs.mk ?_ ?_
   ·refine Xb rfl rfl QI (by exact Take.ent' (by repeat' constructor)) (YQ bs hlt) ?_
    exact Ql rfl
   refine AllObs.mk ?_ ?_
   ·refine Ya rfl Tryz.underlying5 rfl (Qt (by omega) (by omega)) ?_
    exact Ql rfl
   refine AllObs.mk ?_ ?_
   ·refine s_shl 256 rfl rfl rfl (by decide) (Qt (by omega) (by omega)) ?_
    exact Ql rfl
   refine AllObs.mk ?_ ?_
   ·exact Qd rfl rfl (Ql rfl)
   refine AllObs.mk ?_ ?_
   ·exact Qs rfl rfl (Ql rfl)
   refine AllObs.mk ?_ ?_
   ·exact Qj (o2 := 4) rfl rfl rfl (Ql rfl)
   refine AllObs.mk ?_ ?_
   ·refine Qo rfl rfl (by rfl) ?_
    exact Ql rfl
   refine AllObs.mk ?_ ?_
   ·exact Qd rfl rfl (Ql rfl)
   refine AllObs.mk ?_ ?_
   ·refine Xz rfl rfl rfl (Qt (by omega) (by omega)) ?_
    exact Ql rfl
   refine AllObs.mk ?_ ?_
   ·refine QE rfl rfl rfl (Qt (by omega) (by omega)) ?_
    exact Ql rfl
   refine AllObs.mk ?_ ?_
   ·refine Q3 (2 * i + 1) rfl rfl rfl QI (by exact Take.ent' (by repeat' constructor)) (by omega) (by omega) (by rw [Q1]; omega) ?_
    exact Ql rfl
   refine AllObs.mk ?_ ?_
   ·refine Xb rfl rfl QI (by exact Take.ent' (by repeat' constructor)) (YQ bs hlt2) ?_
    exact Ql rfl
   refine AllObs.mk ?_ ?_
   ·refine Ya rfl Tryz.underlying5 rfl (Qt (by omega) (by omega)) ?_
    exact Ql rfl
   refine AllObs.mk ?_ ?_
   ·refine s_or (bs[2 * i]'hlt) 8 rfl rfl rfl rfl hx.1 (by simp only [IntKind.bits]; omega) hx2.1 (by omega) (by decide) (Qt (by omega) (by omega)) ?_
    exact Ql rfl
   refine AllObs.mk ?_ ?_
   ·exact Qe rfl rfl (Ql rfl)
   exact AllObs.nil
  ·refine Qh ?_
   apply RetQ.mk
   ·exact (Res.one rfl rfl)
   ·exact ⟨by rw [hw2]; unfold XH; rw [if_neg (by decide), List.getElem?_eq_getElem hlt, List.getElem?_eq_getElem hlt2]; rfl, rfl⟩
   ·exact Ent.refl _

end Go.Proofs.YtggamdlpiejbiaaGreat
