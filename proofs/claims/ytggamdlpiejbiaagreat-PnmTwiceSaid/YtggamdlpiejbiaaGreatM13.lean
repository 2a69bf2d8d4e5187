/- Walks and plain laws, a part of the proof of PnmTwice: every input that the law's guards let in, no condition beside. -/
import Derived.Lib.AppendStr
import Derived.Lib.UnsafeStr
import Derived.Laws.Externs
import Derived.Lib.Builder
import Derived.Test.YtggamdlpiejbiaaGreatM12
namespace Go.Proofs.YtggamdlpiejbiaaGreat
open Go.RowKit Go.Shelf


def X0 (n : Nat) : List Int := if n < 10 then [48 + (n : Int)] else X0 (n / 10) ++ [48 + ((n % 10 : Nat) : Int)]
termination_by n
decreasing_by omega
def Yw (K W H : Int) (s : RS) (x : Int) : RS × List Int := Xt W H (XX (QT K) s x)
inductive Feed (K M : Int) : List Int → List Int → Prop
  | nil : Feed K M [] []
  | blank {c : Int} {bs ss : List Int} (h : Q8 c = true) (f : Feed K M bs ss) : Feed K M (c :: bs) ss
  | bit {x : Int} {bs ss : List Int} (hK : K = 1) (hx : x = 0 ∨ x = 1) (f : Feed K M bs ss) : Feed K M ((48 + x) :: bs) (x :: ss)
  | num {n : Nat} {c : Int} {bs ss : List Int} (hK : K ≠ 1) (h1 : (n : Int) ≤ M) (h : Q8 c = true) (f : Feed K M bs ss) : Feed K M (X0 n ++ c :: bs) ((n : Int) :: ss)
inductive Go1 (K W H M : Int) : List Int → RS → RS → List Int → Prop
  | nil {s : RS} : Go1 K W H M [] s s []
  | cons {c : Int} {bs out : List Int} {s s' : RS} (h : (Xw K W H M s c).1.last = 0) (g : Go1 K W H M bs (Xw K W H M s c).1 s' out) : Go1 K W H M (c :: bs) s s' ((Xw K W H M s c).2 ++ out)
section
variable {K W H M : Int}
theorem Go1.app {bs cs o1 o2 : List Int} {s s1 s2 : RS} (h : Go1 K W H M bs s s1 o1) (g : Go1 K W H M cs s1 s2 o2) : Go1 K W H M (bs ++ cs) s s2 (o1 ++ o2) := by
  induction h with
  | nil => exact g
  | cons h _ ih => rw [List.append_assoc]; exact .cons h (ih g)
theorem Go1.one {c : Int} {s s' : RS} {o : List Int} (h : Xw K W H M s c = (s', o)) (hl : s'.last = 0) : Go1 K W H M [c] s s' o := by
  have := Go1.cons (K := K) (W := W) (H := H) (M := M) (c := c) (s := s) (by rw [h]; exact hl) (Go1.nil)
  rw [h] at this
  simpa using this
def Cl (W : Int) (s : RS) : Prop := s.n = -1 ∧ s.last = 0 ∧ (s.row.length : Int) < W
theorem dig_step {n rows e : Int} {one row : List Int} {d : Nat} (hK : K ≠ 1) (hd : d < 10) (hr : (row.length : Int) < W) (hm : 10 * max n 0 + d ≤ M) :
    Xw K W H M ⟨n, one, row, rows, 0, e⟩ (48 + (d : Int)) = (⟨10 * max n 0 + d, one, row, rows, 0, e⟩, []) := by
  have hst : Xh (max n 0) (48 + (d : Int)) M = (10 * max n 0 + d, 0) := by
    unfold Xh
    rw [if_neg (by omega), if_neg (by omega)]
    exact Prod.ext (by simp only; omega) rfl
  have hb : Q8 (48 + (d : Int)) = false := decide_eq_false (by omega)
  rw [stp_n0 rfl hr hK hb (by rw [hst]; simp) (by rw [hst]), hst]
theorem dig_run (hK : K ≠ 1) : ∀ (n : Nat) (one row : List Int) (rows e : Int), (n : Int) ≤ M → (row.length : Int) < W → Go1 K W H M (X0 n) ⟨-1, one, row, rows, 0, e⟩ ⟨n, one, row, rows, 0, e⟩ [] := by
  intro n
  induction n using Nat.strongRecOn with
  | _ n ih =>
    intro one row rows e hM hr
    rw [X0]
    by_cases h : n < 10
    · rw [if_pos h]
      have := dig_step (K := K) (W := W) (H := H) (M := M) (n := -1) (rows := rows) (e := e) (one := one) (row := row) (d := n) hK h hr (by omega)
      rw [show (10 * max (-1) 0 + (n : Int)) = n by omega] at this
      exact Go1.one this rfl
    · rw [if_neg h]
      have h1 := ih (n / 10) (by omega) one row rows e (by omega) hr
      have h2 := dig_step (K := K) (W := W) (H := H) (M := M) (n := ((n / 10 : Nat) : Int)) (rows := rows) (e := e) (one := one) (row := row) (d := n % 10) hK (by omega) hr (by omega)
      rw [show (10 * max ((n / 10 : Nat) : Int) 0 + ((n % 10 : Nat) : Int)) = n by omega] at h2
      exact h1.app (Go1.one h2 rfl)
def Zi (K W H : Int) : List Int → RS → Bool × RS × List Int
  | [], s => (false, s, [])
  | x :: xs, s => if (Yw K W H s x).1.last = 1 then (true, (Yw K W H s x).1, (Yw K W H s x).2) else ((Zi K W H xs (Yw K W H s x).1).1, (Zi K W H xs (Yw K W H s x).1).2.1, (Yw K W H s x).2 ++ (Zi K W H xs (Yw K W H s x).1).2.2)
theorem smpR_cl {s : RS} {x : Int} (hW : 1 ≤ W) (h : Cl W s) : (Yw K W H s x).1.last = 1 ∨ Cl W (Yw K W H s x).1 := by
  obtain ⟨h1, h2, h3⟩ := h
  unfold Yw Xt XX
  split
  · rename_i hr; exact .inr ⟨h1, h2, hr⟩
  · simp only
    split
    · exact .inl rfl
    · exact .inr ⟨h1, h2, by simp; omega⟩
theorem put_bit {s : RS} {x : Int} (hK : K = 1) (hx : x = 0 ∨ x = 1) (hs : Cl W s) : Xw K W H M s (48 + x) = Yw K W H s x := by
  obtain ⟨n, one, row, rows, last, e⟩ := s
  rw [stp_b1 hs.2.1 hK (decide_eq_false (by omega)) (by omega), show (48 + x - 48 : Int) = x by omega]
  rfl
theorem put_blank {s : RS} {c : Int} (h : Q8 c = true) (hs : Cl W s) : Xw K W H M s c = (s, []) := by
  obtain ⟨n, one, row, rows, last, e⟩ := s
  exact stp_bn hs.2.1 hs.2.2 hs.1 h
theorem put_end {one row : List Int} {rows e c : Int} {n : Nat} (hK : K ≠ 1) (h : Q8 c = true) : Xw K W H M ⟨n, one, row, rows, 0, e⟩ c = Yw K W H ⟨-1, one, row, rows, 0, e⟩ n :=
  stp_bs rfl (by omega) (fun x => absurd x hK) h
end


theorem pack_one {x : Int} (h : Z8 x) : Xn [x] = (281474976710656 + x, 0) := by
  unfold Z8 at h
  rw [packS_ok [x] (.inl rfl) (by intro n hn; simp at hn; subst hn; exact h)]
  exact Prod.ext (by simp [Yj]; omega) rfl
theorem pack_three {x y z : Int} (h : Z8 x) (h2 : Z8 y) (h3 : Z8 z) : Xn [x, y, z] = (((x * 65536 + y) * 65536 + z) + 3 * 281474976710656, 0) := by
  rw [packS_ok [x, y, z] (.inr rfl) (by intro n hn; simp at hn; rcases hn with rfl | rfl | rfl <;> assumption)]
  exact Prod.ext (by simp [Yj]) rfl
theorem unpack_pack {xs : List Int} (h : xs.length = 1 ∨ xs.length = 3) (hs : ∀ n ∈ xs, Z8 n) : Qw (Xn xs).1 = xs := by
  match xs, h with
  | [x], _ =>
    have hx := hs x (by simp)
    rw [pack_one hx]
    unfold Z8 at hx
    unfold Qw
    rw [if_neg (by simp only; omega), if_pos (by simp only; omega)]
    simp only
    congr 1
    omega
  | [x, y, z], _ =>
    have hx := hs x (by simp)
    have hy := hs y (by simp)
    have hz := hs z (by simp)
    rw [pack_three hx hy hz]
    unfold Z8 at hx hy hz
    unfold Qw
    rw [if_pos (by simp only; omega)]
    simp only [List.cons.injEq, and_true]
    refine ⟨by omega, by omega, by omega⟩
  | [_, _], h => simp at h
  | _ :: _ :: _ :: _ :: _, h => simp at h
/-- A pixel of a format. -/
def Can (ch M p : Int) : Prop := ((Qw p).length : Int) = ch ∧ (Xn (Qw p)).1 = p ∧ ∀ x ∈ Qw p, 0 ≤ x ∧ x ≤ M
section
variable {K W H M : Int}
theorem foldS_step {xs ss row : List Int} {rows : Int} (hl : (xs.length : Int) = QT K) (hr : (row.length : Int) < W) :
    Zi K W H (xs ++ ss) ⟨-1, [], row, rows, 0, 0⟩ = if (Xt W H ⟨-1, [], row ++ [(Xn xs).1], rows, 0, 0⟩).1.last = 1 then (true, (Xt W H ⟨-1, [], row ++ [(Xn xs).1], rows, 0, 0⟩).1, (Xt W H ⟨-1, [], row ++ [(Xn xs).1], rows, 0, 0⟩).2)
      else ((Zi K W H ss (Xt W H ⟨-1, [], row ++ [(Xn xs).1], rows, 0, 0⟩).1).1, (Zi K W H ss (Xt W H ⟨-1, [], row ++ [(Xn xs).1], rows, 0, 0⟩).1).2.1, (Xt W H ⟨-1, [], row ++ [(Xn xs).1], rows, 0, 0⟩).2 ++ (Zi K W H ss (Xt W H ⟨-1, [], row ++ [(Xn xs).1], rows, 0, 0⟩).1).2.2) := by
  have hch : QT K = 1 ∨ QT K = 3 := by unfold QT; split <;> simp
  have last : ∀ (one : List Int) (x : Int), ((one ++ [x]).length : Int) = QT K → Yw K W H ⟨-1, one, row, rows, 0, 0⟩ x = Xt W H ⟨-1, [], row ++ [(Xn (one ++ [x])).1], rows, 0, 0⟩ := by
    intro one x h
    have e1 : Xz (QT K) one row x = ([], row ++ [(Xn (one ++ [x])).1]) := if_pos h
    simp only [Yw, XX, e1]
  have more : ∀ (one : List Int) (x : Int), ((one ++ [x]).length : Int) ≠ QT K → Yw K W H ⟨-1, one, row, rows, 0, 0⟩ x = (⟨-1, one ++ [x], row, rows, 0, 0⟩, []) := by
    intro one x h
    have e1 : Xz (QT K) one row x = (one ++ [x], row) := if_neg h
    simp only [Yw, XX, e1]
    exact fullR_no hr
  match xs, hl with
  | [x], hl =>
    rw [List.cons_append, List.nil_append, Zi, last [] x hl, List.nil_append]
  | [x, y, z], hl =>
    simp only [List.length_cons, List.length_nil] at hl
    have m1 := more [] x (by simp; omega)
    have m2 := more [x] y (by simp; omega)
    have m3 := last [x, y] z (by simp; omega)
    simp only [Qv] at m1 m2 m3
    rw [List.cons_append, List.cons_append, List.cons_append, List.nil_append, Zi, m1, if_neg (by simp), Zi, m2, if_neg (by simp), Zi, m3]
    split <;> simp
  | [], hl => simp at hl; omega
  | [_, _], hl => simp at hl; omega
  | _ :: _ :: _ :: _ :: _, hl => simp at hl; omega
theorem rows_fold (hW : 1 ≤ W) : ∀ (l row : List Int) (rows : Int), (∀ p ∈ l, Can (QT K) M p) → (row.length : Int) < W → rows < H →
    (rows * W + row.length + l.length = H * W → ∃ s', Zi K W H (l.flatMap Qw) ⟨-1, [], row, rows, 0, 0⟩ = (true, s', row ++ l)) ∧
    (rows * W + row.length + l.length < H * W → ∃ row' rows' out, Zi K W H (l.flatMap Qw) ⟨-1, [], row, rows, 0, 0⟩ = (false, ⟨-1, [], row', rows', 0, 0⟩, out) ∧ (row'.length : Int) < W ∧ rows' * W + row'.length = rows * W + row.length + l.length ∧ rows' < H)
  | [], row, rows, hp, hr, hq => by
    have h1 : (rows + 1) * W ≤ H * W := Int.mul_le_mul_of_nonneg_right (by omega) (by omega)
    rw [Int.add_mul, Int.one_mul] at h1
    refine ⟨fun h => by simp at h; omega, fun _ => ⟨row, rows, [], rfl, hr, by simp, hq⟩⟩
  | p :: l, row, rows, hp, hr, hq => by
    obtain ⟨hc1, hc2, _⟩ := hp p (by simp)
    have hst := foldS_step (K := K) (W := W) (H := H) (xs := Qw p) (ss := l.flatMap Qw) (rows := rows) hc1 hr
    rw [hc2] at hst
    have hl : (((p :: l).length : Nat) : Int) = l.length + 1 := by simp
    by_cases hw : ((row ++ [p]).length : Int) < W
    · have hf : Xt W H ⟨-1, [], row ++ [p], rows, 0, 0⟩ = (⟨-1, [], row ++ [p], rows, 0, 0⟩, []) := fullR_no hw
      rw [hf, if_neg (by simp)] at hst
      have ih := rows_fold hW l (row ++ [p]) rows (fun q hq => hp q (by simp [hq])) hw hq
      have hl2 : ((row ++ [p]).length : Int) = row.length + 1 := by simp
      rw [List.flatMap_cons, hst]
      refine ⟨fun h => ?_, fun h => ?_⟩
      · obtain ⟨s', hs⟩ := ih.1 (by omega)
        exact ⟨s', by rw [hs]; simp⟩
      · obtain ⟨row', rows', out, hs, h1, h2, h3⟩ := ih.2 (by omega)
        exact ⟨row', rows', out, by rw [hs]; simp, h1, by omega, h3⟩
    · have hl2 : ((row ++ [p]).length : Int) = row.length + 1 := by simp
      have hf : Xt W H ⟨-1, [], row ++ [p], rows, 0, 0⟩ = (⟨-1, [], [], rows + 1, if rows + 1 = H then 1 else 0, 0⟩, row ++ [p]) := if_neg hw
      have hm : (rows + 1) * W = rows * W + W := by rw [Int.add_mul, Int.one_mul]
      rw [hf] at hst
      rw [List.flatMap_cons, hst]
      by_cases hH : rows + 1 = H
      · rw [if_pos hH, if_pos rfl]
        subst hH
        refine ⟨fun h => ?_, fun h => by omega⟩
        have : l = [] := List.eq_nil_of_length_eq_zero (by omega)
        subst this
        exact ⟨_, rfl⟩
      · rw [if_neg hH, if_neg (by simp)]
        have ih := rows_fold hW l [] (rows + 1) (fun q hq => hp q (by simp [hq])) (by simp; omega) (by omega)
        simp only [List.length_nil] at ih
        refine ⟨fun h => ?_, fun h => ?_⟩
        · obtain ⟨s', hs⟩ := ih.1 (by omega)
          exact ⟨s', by rw [hs]; simp⟩
        · obtain ⟨row', rows', out, hs, h1, h2, h3⟩ := ih.2 (by omega)
          exact ⟨row', rows', row ++ [p] ++ out, by rw [hs], h1, by omega, h3⟩
def Y8 : List Int → List Int
  | [] => []
  | [x] => X0 x.toNat
  | x :: y :: xs => X0 x.toNat ++ 32 :: Y8 (y :: xs)
def nlB (K W : Int) (i : Nat) : Bool := decide (K > 1 ∨ (i : Int) % W = W - 1 ∨ (i : Int) % W % 70 = 69)
def pxB (K W : Int) (i : Nat) (p : Int) : List Int := Y8 (Qw p) ++ if nlB K W i = true then [10] else []
def wrL (K W : Int) : Nat → List Int → List Int
  | _, [] => []
  | i, p :: l => pxB K W i p ++ wrL K W (i + 1) l
theorem wrL_snoc (p : Int) : ∀ (l : List Int) (i : Nat), wrL K W i (l ++ [p]) = wrL K W i l ++ pxB K W (i + l.length) p
  | [], i => by simp [wrL]
  | q :: l, i => by simp only [List.cons_append, wrL, wrL_snoc p l (i + 1), List.length_cons, List.append_assoc]; congr 3; omega
theorem digs_one {x : Int} (h : 0 ≤ x) (h2 : x < 10) : X0 x.toNat = [48 + x] := by
  rw [X0, if_pos (by omega)]
  congr 1
  omega
theorem feed_num {x c : Int} {bs ss : List Int} (hK : K ≠ 1) (h0 : 0 ≤ x) (h1 : x ≤ M) (h : Q8 c = true) (f : Feed K M bs ss) : Feed K M (X0 x.toNat ++ c :: bs) (x :: ss) := by
  have := Feed.num (K := K) (M := M) (n := x.toNat) hK (by omega) h f
  rwa [show ((x.toNat : Nat) : Int) = x by omega] at this
theorem feed_px (h1 : 1 ≤ K) (h3 : K ≤ 3) (hM : K = 1 → M = 1) {p : Int} (hc : Can (QT K) M p) (i : Nat) {bs ss : List Int} (f : Feed K M bs ss) : Feed K M (pxB K W i p ++ bs) (Qw p ++ ss) := by
  obtain ⟨hl, _, hs⟩ := hc
  unfold pxB
  have hK : K = 1 ∨ K = 2 ∨ K = 3 := by omega
  rcases hK with rfl | hK
  · have e1 : QT 1 = 1 := rfl
    rw [e1] at hl
    match hu : Qw p, hl with
    | [x], _ =>
      have hx := hs x (by rw [hu]; simp)
      rw [hM rfl] at hx
      rw [Y8, digs_one (by omega) (by omega)]
      have f2 : Feed 1 M ((if nlB 1 W i = true then [10] else []) ++ bs) ss := by
        split
        · exact .blank rfl f
        · exact f
      have := Feed.bit (K := 1) (M := M) (x := x) rfl (by omega) f2
      simpa using this
    | [], hl => simp at hl
    | _ :: _ :: _, hl => simp at hl; omega
  · have hn : nlB K W i = true := decide_eq_true (.inl (by omega))
    rw [hn, if_pos rfl]
    rcases hK with rfl | rfl
    · have e1 : QT 2 = 1 := rfl
      rw [e1] at hl
      match hu : Qw p, hl with
      | [x], _ =>
        have hx := hs x (by rw [hu]; simp)
        have := feed_num (K := 2) (M := M) (x := x) (c := 10) (by decide) hx.1 hx.2 rfl f
        simpa [Y8] using this
      | [], hl => simp at hl
      | _ :: _ :: _, hl => simp at hl; omega
    · have e1 : QT 3 = 3 := rfl
      rw [e1] at hl
      match hu : Qw p, hl with
      | [x, y, z], _ =>
        have hx := hs x (by rw [hu]; simp)
        have hy := hs y (by rw [hu]; simp)
        have hz := hs z (by rw [hu]; simp)
        have f1 := feed_num (K := 3) (M := M) (x := z) (c := 10) (by decide) hz.1 hz.2 rfl f
        have f2 := feed_num (K := 3) (M := M) (x := y) (c := 32) (by decide) hy.1 hy.2 rfl f1
        have f3 := feed_num (K := 3) (M := M) (x := x) (c := 32) (by decide) hx.1 hx.2 rfl f2
        simpa [Y8] using f3
      | [], hl => simp at hl
      | [_], hl => simp at hl
      | [_, _], hl => simp at hl
      | _ :: _ :: _ :: _ :: _, hl => simp at hl; omega
theorem feed_wr (h1 : 1 ≤ K) (h3 : K ≤ 3) (hM : K = 1 → M = 1) : ∀ (l : List Int) (i : Nat), (∀ p ∈ l, Can (QT K) M p) → Feed K M (wrL K W i l) (l.flatMap Qw)
  | [], _, _ => .nil
  | p :: l, i, h => by
    rw [wrL, List.flatMap_cons]
    exact feed_px h1 h3 hM (h p (by simp)) i (feed_wr h1 h3 hM l (i + 1) fun q hq => h q (by simp [hq]))
end

end Go.Proofs.YtggamdlpiejbiaaGreat
namespace Go.Proofs.YtggamdlpiejbiaaGreat
open Go.RowKit Go.Shelf


theorem YA (a b : ByteArray) : QZ (a ++ b) = QZ a ++ QZ b := by simp [QZ, ByteArray.data_append]
theorem Zv {xs : List Int} (h : ∀ x ∈ xs, 0 ≤ x ∧ x ≤ 255) : QZ (strOfNums xs) = xs := by
  unfold QZ strOfNums
  simp only [List.map_map]
  conv => rhs; rw [← List.map_id xs]
  refine List.map_congr_left fun x hx => ?_
  have := h x hx
  simp only [Function.comp, UInt8.toNat_ofNat', id]
  omega
theorem size_nums (xs : List Int) : (strOfNums xs).size = xs.length := by simp [strOfNums, ByteArray.size]
theorem Zh (n : Nat) : (X0 n).length ≤ n + 1 := by
  induction n using Nat.strongRecOn with
  | _ n ih =>
    rw [X0]
    split
    · simp
    · have := ih (n / 10) (by omega)
      simp only [List.length_append, List.length_cons, List.length_nil]
      omega
theorem digs_rec {n : Int} (h : 10 ≤ n) : X0 n.toNat = X0 (n / 10).toNat ++ [48 + n % 10] := by
  rw [X0, if_neg (by omega)]
  congr 1
  · congr 1; omega
  · congr 1; omega
theorem can_of_fit {p ch M : Int} (h0 : 0 ≤ p) (h1 : p < 18446744073709551616) (h : FitP p ch M) : Can ch M p := by
  obtain ⟨hf, hl, hs⟩ := h
  unfold FmtP at hf
  refine ⟨hl, ?_, fun x hx => ⟨?_, hs x hx⟩⟩
  · unfold Qw at hl ⊢
    split
    · rename_i h3
      rw [pack_three (by unfold Z8; omega) (by unfold Z8; omega) (by unfold Z8; omega)]
      simp only
      omega
    · rename_i h3
      split
      · rename_i h4
        rw [pack_one (by unfold Z8; omega)]
        simp only
        omega
      · rename_i h4
        rw [if_neg h3, if_neg h4] at hl
        simp at hl
        omega
  · unfold Qw at hx
    split at hx
    · simp at hx; omega
    · split at hx
      · simp at hx; omega
      · simp at hx

theorem Decimal_spec (n : Int) (h0 : 0 ≤ n) (h1 : n ≤ 65535) : Fn Tryz.prog 118 #[.int .i64 n] [] (fun v l => ∃ s, v = .string s ∧ QZ s = X0 n.toNat ∧ l = []) := by
 refine Qo (vs := [.int .i64 n]) Tryz.func118 rfl Tryz.ntmps118 rfl (Qb (Qa (Qd rfl rfl (WpL.nil (Qb (Qa (Qc rfl rfl (YO rfl rfl rfl (by omega) (by omega) ?_))))))))
 refine Qd rfl rfl (WpL.nil (Qb (Qb (Qa (Qc rfl rfl (Xc rfl rfl rfl (WpL.nil (QA rfl (by omega) ?_))))))))
 refine Wp.skip (Qb (Qa (Qc rfl rfl (Qx rfl rfl rfl (Qp (by omega) (by omega)) ?_))))
 refine Yk rfl Tryz.underlying3 rfl (w_u8 (by omega) (by omega)) ?_
 refine X7 rfl rfl rfl rfl ?_
 intro g1
 rw [show ([.int .u8 (48 + n % 10)] : List Value) = XY [48 + n % 10] from rfl]
 refine s_b2s (xs := [48 + n % 10]) rfl Tryz.underlying22 Tryz.underlying5 Tryz.underlying9 rfl rfl (Qd rfl rfl (WpL.nil (Qb (Qb (Qa (Qc rfl rfl (XJ rfl rfl rfl (Qc rfl rfl (QB (dj := 18) rfl (decide_eq_true (by omega)) ?_)))))))))
 refine Qf rfl rfl (Qc rfl rfl (Qf rfl rfl (Xc rfl rfl rfl (Qr rfl rfl rfl (WpL.nil (Qh rfl (fun h1 => ?_) (fun h1 => ?_)))))))
 ·refine Qb (Qb (Qa (Qc rfl rfl (Xc rfl rfl rfl (WpL.nil (QA rfl (by omega) ?_))))))
  refine Wp.skip (Qb (Qa (Qc rfl rfl (Qd rfl rfl (WpL.nil (Qg ?_))))))
  apply RetQ.mk
  ·exact (Res.one rfl rfl)
  ·exact ⟨_, rfl, by rw [Zv (by intro x hx; simp at hx; omega), X0, if_pos (by omega)]; congr 1; omega, rfl⟩
  ·exact Ent.nil _
 ·refine Wp.skip (Qb (Qa (Qc rfl rfl (Y2 rfl rfl rfl (by omega) (by omega) (Qp (by omega) (by omega)) ?_))))
  refine Qk rfl rfl (by repeat' constructor) (Decimal_spec (n / 10) (by omega) (by omega)) ?_
  rintro _ _ ⟨s1, rfl, hs1, rfl⟩
  simp only [Qv]
  have hsz1 : s1.size ≤ 65536 := by rw [← Xa, hs1]; have := Zh (n / 10).toNat; omega
  refine Qc rfl rfl (Zq rfl rfl rfl (by rw [size_nums]; simp; omega) ?_)
  refine Qd rfl rfl (WpL.nil (Qg ?_))
  apply RetQ.mk
  ·exact (Res.one rfl rfl)
  ·exact ⟨_, rfl, by rw [YA, hs1, Zv (by intro x hx; simp at hx; omega), digs_rec (n := n) (by omega)], rfl⟩
  ·exact Ent.nil _
termination_by n.toNat
decreasing_by omega


theorem Za (K W H M : Int) (hK : 1 ≤ K) (hK6 : K ≤ 6) : Fn Tryz.prog 57 #[.agg #[.int .i64 K, .int .i64 W, .int .i64 H, .int .i64 M]] [] (fun v l => v = .agg #[.int .i64 (QT K), .int .i64 M] ∧ l = []) := by
 refine Qo (vs := [.agg #[.int .i64 K, .int .i64 W, .int .i64 H, .int .i64 M]]) Tryz.func57 rfl Tryz.ntmps57 rfl (Qb (Qa (Xf rfl rfl rfl ?_)))
 intro g1
 refine X6 rfl ?_
 intro g2
 refine WpL.nil (Qb (Qb (Qa (Qj (o2 := 0) rfl rfl rfl (Qm rfl rfl (by rfl) ?_)))))
 refine QJ rfl rfl rfl (Qc rfl rfl (QP rfl rfl rfl (fun hg1 => ?_) (fun hg1 => ?_)))
 ·have hg1 := of_decide_eq_false hg1
  refine Qj (o2 := 0) rfl rfl rfl (Qf rfl rfl (Qm rfl rfl (by rfl) ?_))
  refine Qf rfl rfl (QJ rfl rfl rfl (Qu rfl rfl rfl (WpL.nil (Qh rfl (fun h0 => ?_) (fun h0 => ?_)))))
  ·refine Qb (Qa (Qj (o2 := 3) rfl rfl rfl (Qm rfl rfl (by rfl) ?_)))
   refine Xl rfl rfl ?_
   refine QE rfl rfl rfl (by rfl) rfl ?_
   refine WpL.nil (Qg ?_)
   apply RetQ.mk
   ·exact (Xj rfl rfl (by rfl))
   ·exact ⟨by rw [show QT K = 3 from if_pos (by omega)], rfl⟩
   ·exact Ent.nil _
  ·refine Wp.skip (Qb (Qa (Qj (o2 := 3) rfl rfl rfl (Qm rfl rfl (by rfl) ?_))))
   refine Xl rfl rfl ?_
   refine QE rfl rfl rfl (by rfl) rfl ?_
   refine WpL.nil (Qg ?_)
   apply RetQ.mk
   ·exact (Xj rfl rfl (by rfl))
   ·exact ⟨by rw [show QT K = 1 from if_neg (by omega)], rfl⟩
   ·exact Ent.nil _
 ·have hg1 := of_decide_eq_true hg1
  refine Qe rfl rfl rfl (by decide) (Qe rfl rfl rfl (by decide) (Qr rfl rfl rfl (WpL.nil (Xg rfl (Qb (Qa (Qj (o2 := 3) rfl rfl rfl (Qm rfl rfl (by rfl) ?_))))))))
  refine Xl rfl rfl ?_
  refine QE rfl rfl rfl (by rfl) rfl ?_
  refine WpL.nil (Qg ?_)
  apply RetQ.mk
  ·exact (Xj rfl rfl (by rfl))
  ·exact ⟨by rw [show QT K = 3 from if_pos (by omega)], rfl⟩
  ·exact Ent.nil _

theorem pack_bd {xs : List Int} (h : xs.length = 1 ∨ xs.length = 3) (hs : ∀ n ∈ xs, Z8 n) : 0 ≤ (Xn xs).1 ∧ (Xn xs).1 < 18446744073709551616 := by
  have := packF_all (l := xs) (by omega) hs
  rw [packS_ok xs h hs]
  simp only
  omega
end Go.Proofs.YtggamdlpiejbiaaGreat
namespace Go.Proofs.YtggamdlpiejbiaaGreat
open Go.RowKit Go.Shelf


/-- A number's digits, the lowest first. -/
def lowD (b n : Nat) : List Int := if _h : n < b ∨ b < 2 then [((n % b : Nat) : Int)] else ((n % b : Nat) : Int) :: lowD b (n / b)
termination_by n
decreasing_by exact Nat.div_lt_self (by omega) (by omega)
theorem lowD_lt {b n : Nat} (h : n < b) : lowD b n = [((n % b : Nat) : Int)] := by rw [lowD, dif_pos (.inl h)]
theorem lowD_ge {b n : Nat} (h : b ≤ n) (hb : 2 ≤ b) : lowD b n = ((n % b : Nat) : Int) :: lowD b (n / b) := by rw [lowD, dif_neg (by omega)]
theorem lowD_head (b n : Nat) : ∃ t, lowD b n = ((n % b : Nat) : Int) :: t := by
  rw [lowD]
  split
  · exact ⟨_, rfl⟩
  · exact ⟨_, rfl⟩
theorem lowD_bd {b : Nat} (hb : 0 < b) (n : Nat) : ∀ x ∈ lowD b n, 0 ≤ x ∧ x < b := by
  induction n using Nat.strongRecOn with
  | _ n ih =>
    intro x hx
    have hm := Nat.mod_lt n hb
    rw [lowD] at hx
    split at hx
    · simp only [List.mem_singleton] at hx; subst hx; omega
    · rcases List.mem_cons.1 hx with rfl | hx
      · omega
      · exact ih (n / b) (Nat.div_lt_self (by omega) (by omega)) x hx
theorem lowD_digs (n : Nat) : X0 n = ((lowD 10 n).map fun x => 48 + x).reverse := by
  induction n using Nat.strongRecOn with
  | _ n ih =>
    by_cases h : n < 10
    · rw [lowD_lt h, X0, if_pos (by omega)]
      simp; omega
    · rw [lowD_ge (by omega) (by omega), X0, if_neg (by omega), ih (n / 10) (by omega)]
      simp
theorem lowD_len20 {b n : Nat} (hb : 10 ≤ b) (k : Nat) (h : n < 10 ^ (k + 1)) : (lowD b n).length ≤ k + 1 := by
  induction k generalizing n with
  | zero =>
    rw [lowD_lt (by omega)]; simp
  | succ k ih =>
    by_cases h2 : n < b
    · rw [lowD_lt h2]; simp
    · rw [lowD_ge (by omega) (by omega)]
      have : n / b < 10 ^ (k + 1) := by
        apply Nat.div_lt_of_lt_mul
        calc n < 10 ^ (k + 1 + 1) := h
          _ = 10 * 10 ^ (k + 1) := by rw [Nat.pow_succ]; omega
          _ ≤ b * 10 ^ (k + 1) := Nat.mul_le_mul_right _ hb
      have := ih this
      simp; omega
theorem set_map {α : Type} (f : Int → α) (xs : List Int) (k : Nat) (x : Int) : (xs.map f).set k (f x) = (xs.set k x).map f := (List.map_set ..).symm
theorem u8s_set (xs : List Int) (k : Nat) (x : Int) : (XY xs).set k (.int .u8 x) = XY (xs.set k x) := set_map _ xs k x
theorem digs_bd (n : Nat) : ∀ x ∈ X0 n, 48 ≤ x ∧ x ≤ 57 := by
  intro x hx
  rw [lowD_digs, List.mem_reverse, List.mem_map] at hx
  obtain ⟨y, hy, rfl⟩ := hx
  have := lowD_bd (b := 10) (by omega) n y hy
  omega

end Go.Proofs.YtggamdlpiejbiaaGreat
namespace Go.Proofs.YtggamdlpiejbiaaGreat
open Go.RowKit Go.Shelf

theorem take_all {xs : List Int} {k : Nat} {mx : Int} (h : ∀ x ∈ xs.take k, x ≤ mx) (hlt : k < xs.length) (hx : xs[k] ≤ mx) : ∀ x ∈ xs.take (k + 1), x ≤ mx := by
  intro x hxm
  rw [XU xs hlt] at hxm
  rcases List.mem_append.1 hxm with hxm | hxm
  · exact h x hxm
  · have := List.mem_singleton.1 hxm; subst this; exact hx

theorem rFits_spec (p ch mx : Int) (h0 : 0 ≤ p) (h1 : p < 18446744073709551616) : Fn Tryz.prog 98 #[.int .u64 p, .agg #[.int .i64 ch, .int .i64 mx]] [] (fun v l => v = .bool (decide (FitP p ch mx)) ∧ l = []) := by
 have hul := unpackS_len p
 refine Qo (vs := [.int .u64 p, .agg #[.int .i64 ch, .int .i64 mx]]) Tryz.func98 rfl Tryz.ntmps98 rfl (Qb (Qa (Xf rfl rfl rfl ?_)))
 intro g1
 refine Qd rfl rfl (WpL.nil (Qb (Qa (Qc rfl rfl (Qk rfl rfl (by repeat' constructor) (Vj _ (by omega) (by omega)) ?_)))))
 rintro _ _ ⟨A1, a1, c1, rfl, rfl, hA1, hn1⟩
 simp only [Qv]
 refine Qd rfl rfl (WpL.nil (Qb (Qb (Qa (Qd rfl rfl (WpL.nil (Wp.block ?_)))))))
 refine Wp.loopD (σ := Nat) (fun k => k ≤ (Qw p).length ∧ ∀ x ∈ (Qw p).take k, x ≤ mx) [4, 6, 10, 11, 12, 13, 14, 15, 16, 17, 18, 19, 20, 21, 22] (fun k => [(6, .int .i64 (k : Int))]) (fun k => [A1, QD g1 [.int .i64 ch, .int .i64 mx] 48]) (fun k => (Qw p).length - k) 0 ?_ (by repeat (first | exact FrLe.nil | refine FrLe.cons rfl ?_)) ?_ ?_
 ·exact ⟨Nat.zero_le _, by simp⟩
 ·exact Ent.refl _
 ·rintro k ⟨hk, hall⟩
  refine Qb (Qb (Qa (Qc rfl rfl (Qc rfl rfl (QO rfl rfl (Xc rfl rfl rfl (WpL.nil (Qh rfl (fun h1 => ?_) (fun h1 => ?_)))))))))
  ·have hlt : k < (Qw p).length := by omega
   refine Wp.skip (Qb (Wp.block ?_))
   refine Qb ?_
   apply Q3 mixed [⟨16, _, []⟩, ⟨17, _, []⟩, ⟨18, _, [0, 1]⟩, ⟨19, _, [2]⟩, ⟨20, _, []⟩, ⟨21, _, [4]⟩, ⟨22, _, [3, 5]⟩] rfl
   ·refine AllObs.mk ?_ ?_
    ·exact Qc rfl rfl (Qn rfl)
    refine AllObs.mk ?_ ?_
    ·exact Qc rfl rfl (Qn rfl)
    refine AllObs.mk ?_ ?_
    ·refine Xs k rfl rfl rfl hA1 (by exact Take.ent' (by repeat' constructor)) rfl (by omega) (by rw [Xm]; omega) ?_
     exact Qn rfl
    refine AllObs.mk ?_ ?_
    ·refine Xv rfl rfl hA1 (by exact Take.ent' (by repeat' constructor)) (XO (Qw p) hlt) ?_
     exact Qn rfl
    refine AllObs.mk ?_ ?_
    ·exact Qj (o2 := 1) rfl rfl rfl (Qn rfl)
    refine AllObs.mk ?_ ?_
    ·refine Qm rfl rfl (by rfl) ?_
     exact Qn rfl
    refine AllObs.mk ?_ ?_
    ·exact XJ rfl rfl rfl (Qn rfl)
    exact AllObs.nil
   ·refine Qh rfl (fun h2 => ?_) (fun h2 => ?_)
    ·refine Qb (Qa (Qd rfl rfl (WpL.nil (Qg ?_))))
     skip
     apply RetQ.mk
     ·exact (Res.one rfl rfl)
     ·exact ⟨congrArg Value.bool (df (fun hf => by have := hf.2.2 _ (List.getElem_mem hlt); omega)), rfl⟩
     ·exact Ent.nil _
    ·refine Wp.skip (Qa (Qc rfl rfl (Qx rfl rfl rfl (Qp (by omega) (by omega)) ?_)))
     refine Qd rfl rfl (WpL.nil (Qq (k + 1) ?_ ?_ (by ((repeat (first | exact Top.refl | refine Top.push rfl ?_)); done)) (by repeat (first | exact FrLe.nil | refine FrLe.cons rfl ?_)) ?_))
     ·exact ⟨by omega, take_all hall hlt (by omega)⟩
     ·omega
     ·exact Ent.refl _
  ·refine QV (Qb (Qa ?_))
   refine Qz (vs := [_, _]) rfl rfl rfl (by rfl) ?_
   refine Qk rfl rfl (by repeat' constructor) (rFormat1_spec _ _) ?_
   rintro _ _ ⟨rfl, rfl⟩
   simp only [Qv]
   refine Qd rfl rfl (WpL.nil (Qb (Qa (Qc rfl rfl (Qc rfl rfl (QP rfl rfl rfl (fun hg1 => ?_) (fun hg1 => ?_)))))))
   ·have hg1 := of_decide_eq_true hg1
    refine Qc rfl rfl (Qf rfl rfl (QO rfl rfl (Qf rfl rfl (Qj (o2 := 0) rfl rfl rfl (Qf rfl rfl (Qm rfl rfl (by rfl) ?_))))))
    refine Qf rfl rfl (QJ rfl rfl rfl (Qr rfl rfl rfl (Qd rfl rfl (WpL.nil (Qg ?_)))))
    skip
    apply RetQ.mk
    ·exact (Res.one rfl rfl)
    ·refine ⟨congrArg Value.bool ?_, rfl⟩
     have hke : k = (Qw p).length := by omega
     rw [hke, List.take_length] at hall
     exact dd ⟨fun h => ⟨by assumption, h, hall⟩, fun h => h.2.1⟩
    ·exact Ent.nil _
   ·have hg1 := of_decide_eq_false hg1
    refine Qe rfl rfl rfl (by decide) (Qe rfl rfl rfl (by decide) (Qe rfl rfl rfl (by decide) (Qe rfl rfl rfl (by decide) (Qu rfl rfl rfl (Qd rfl rfl (WpL.nil (Qg ?_)))))))
    skip
    apply RetQ.mk
    ·exact (Res.one rfl rfl)
    ·refine ⟨congrArg Value.bool ?_, rfl⟩
     have hke : k = (Qw p).length := by omega
     rw [hke, List.take_length] at hall
     exact df (fun hf => absurd hf.1 (by assumption))
    ·exact Ent.nil _


theorem chK_or (K : Int) : QT K = 1 ∨ QT K = 3 := by unfold QT; split <;> simp
def WrP (K W H M : Int) (px : List Int) : Prop := Zz K W H M ∧ (px.length : Int) = W * H ∧ ∀ p ∈ px, FitP p (QT K) M
/-- What stands behind j samples. -/
def pj (xs : List Int) (j : Nat) : List Int := if j = xs.length then Y8 xs else (xs.take j).flatMap fun x => X0 x.toNat ++ [32]
theorem pj_zero {xs : List Int} : pj xs 0 = [] := by
  unfold pj
  split
  · rename_i h; rw [List.eq_nil_of_length_eq_zero h.symm]; rfl
  · rfl
theorem pj_more {xs : List Int} (_h3 : xs.length = 1 ∨ xs.length = 3) {j : Nat} (hj : j + 1 < xs.length) : pj xs j ++ X0 (xs[j]).toNat ++ [32] = pj xs (j + 1) := by
  unfold pj
  rw [if_neg (by omega), if_neg (by omega), XU xs (by omega), List.flatMap_append]
  simp
theorem pj_end {xs : List Int} (h3 : xs.length = 1 ∨ xs.length = 3) {j : Nat} (hj : j + 1 = xs.length) : pj xs j ++ X0 (xs[j]'(by omega)).toNat = pj xs (j + 1) := by
  match xs, h3 with
  | [x], _ =>
    have : j = 0 := by simpa using hj
    subst this
    simp [pj, Y8]
  | [x, y, z], _ =>
    have : j = 2 := by simpa using hj
    subst this
    simp [pj, Y8]
  | [_, _], h => simp at h
  | _ :: _ :: _ :: _ :: _, h => simp at h
theorem pj_all {xs : List Int} : pj xs xs.length = Y8 xs := if_pos rfl
theorem wr_take {K W : Int} {px : List Int} {k : Nat} (h : k < px.length) : wrL K W 0 (px.take (k + 1)) = wrL K W 0 (px.take k) ++ (Y8 (Qw px[k]) ++ if nlB K W k = true then [10] else []) := by
  rw [XU px h, wrL_snoc]
  simp only [pxB, Nat.zero_add, List.length_take, show min k px.length = k by omega]
theorem nl_t {K W : Int} {k : Nat} (h : K > 1 ∨ (k : Int) % W = W - 1 ∨ (k : Int) % W % 70 = 69) {b bs : List Int} (e : bs = b) : b ++ [10] = bs ++ (if nlB K W k = true then [10] else []) := by
  rw [show nlB K W k = true from decide_eq_true h, if_pos rfl, e]
theorem nl_f {K W : Int} {k : Nat} (h1 : ¬ K > 1) (h2 : ¬ (k : Int) % W = W - 1) (h3 : ¬ (k : Int) % W % 70 = 69) {b bs : List Int} (e : bs = b) : b = bs ++ (if nlB K W k = true then [10] else []) := by
  rw [show nlB K W k = false from decide_eq_false (by omega), e]; simp
structure WrX where
  (k : Nat) (s : ByteArray)

set_option maxHeartbeats 4000000 in
theorem rWrite_spec (A0 : HP) (a0 : Option Addr) (c0 : Nat) (px : List Int) (hA : RdsL [A0] a0 (XG px)) (hr : ∀ p ∈ px, 0 ≤ p ∧ p < 18446744073709551616) (hl : px.length ≤ 300000) (K W H M : Int) : Fn Tryz.prog 69 #[.slice a0 px.length c0, .agg #[.int .i64 K, .int .i64 W, .int .i64 H, .int .i64 M]] [A0] (fun v l => ∃ s e, v = .tuple #[.string s, .int .i64 e] ∧ ((WrP K W H M px ∧ e = 0 ∧ QZ s = wrL K W 0 px ∧ s.size ≤ px.length * 300000) ∨ (¬ WrP K W H M px ∧ e = 1 ∧ s = ⟨#[]⟩)) ∧ l = [A0]) := by
 refine Qo (vs := [.slice a0 px.length c0, .agg #[.int .i64 K, .int .i64 W, .int .i64 H, .int .i64 M]]) Tryz.func69 rfl Tryz.ntmps69 rfl (Qb (Qa (Xf rfl rfl rfl ?_)))
 intro g1
 refine Qd rfl rfl (Qd rfl rfl (WpL.nil (Qb (Qa ?_))))
 refine Qz (vs := [_, _, _, _]) rfl rfl rfl (by rfl) ?_
 refine Qk rfl rfl (by repeat' constructor) (rMay_spec _ _ _ _) ?_
 rintro _ _ ⟨rfl, rfl⟩
 simp only [Qv]
 refine Qd rfl rfl (WpL.nil (Qb (Qb (Qa (Qc rfl rfl (Yt rfl rfl (WpL.nil (Qh rfl (fun hP => ?_) (fun hP => ?_)))))))))
 ·refine Qb (Qa (Qd rfl rfl (Qd rfl rfl (WpL.nil (Qg ?_)))))
  apply RetQ.mk
  ·exact (QX rfl rfl rfl)
  ·exact ⟨_, _, rfl, .inr ⟨fun h => hP h.1, rfl, rfl⟩, rfl⟩
  ·exact Take.ent' (by repeat' constructor)
 ·have hP := Classical.not_not.1 hP
  have hP2 := hP.1
  unfold XN at hP2
  have hK4 := hP.2
  have hWH0 : 0 ≤ W * H := Int.mul_nonneg (by omega) (by omega)
  have hWH : W * H ≤ 4096 * 65536 := Int.mul_le_mul (by omega) (by omega) (by omega) (by omega)
  refine Wp.skip (Qb (Qb (Qa (Qc rfl rfl (QO rfl rfl (Qj (o2 := 1) rfl rfl rfl (Qm rfl rfl (by rfl) ?_)))))))
  refine Qj (o2 := 2) rfl rfl rfl (Qm rfl rfl (by rfl) ?_)
  refine XQ rfl rfl rfl (Qp (by omega) (by omega)) ?_
  refine Xu rfl rfl rfl (WpL.nil (Qh rfl (fun h1 => ?_) (fun h1 => ?_)))
  ·refine Qb (Qa (Qd rfl rfl (Qd rfl rfl (WpL.nil (Qg ?_)))))
   apply RetQ.mk
   ·exact (QX rfl rfl rfl)
   ·exact ⟨_, _, rfl, .inr ⟨fun h => h1 h.2.1, rfl, rfl⟩, rfl⟩
   ·exact Take.ent' (by repeat' constructor)
  ·refine Wp.skip (Qb (Qa (Qd rfl rfl (WpL.nil (Qb (Qb (Qa (Qd rfl rfl (WpL.nil (Wp.block ?_))))))))))
   refine Wp.loopD (σ := WrX) (fun x => x.k ≤ px.length ∧ QZ x.s = wrL K W 0 (px.take x.k) ∧ (∀ p ∈ px.take x.k, FitP p (QT K) M) ∧ x.s.size ≤ x.k * 300000) [4, 5, 7, 8, 9, 10, 11, 12, 25, 26, 27, 28, 29, 30, 31, 32, 33, 34, 35, 36, 37, 38, 39, 40, 41, 42, 43, 44, 45, 46, 47, 48, 49, 50, 51, 52, 53, 54, 55, 56, 57, 58, 59, 60, 61, 62, 63, 64, 65, 66, 67, 68, 69, 70, 71, 72, 73, 74, 75, 76, 77, 78, 79, 80, 81, 82, 83, 84, 85] (fun x => [(8, .int .i64 (x.k : Int)), (7, .string x.s)]) (fun x => [QD g1 [.int .i64 K, .int .i64 W, .int .i64 H, .int .i64 M] 113, A0]) (fun x => px.length - x.k) ⟨0, ⟨#[]⟩⟩ ?_ (by repeat (first | exact FrLe.nil | refine FrLe.cons rfl ?_)) ?_ ?_
   ·exact ⟨Nat.zero_le _, rfl, by simp, Nat.zero_le _⟩
   ·exact Ent.refl _
   ·rintro ⟨k, s⟩ ⟨hk, hbs, hfit, hsz⟩
    dsimp only at hk hbs hfit hsz ⊢
    refine Qb (Qb (Qa (Qc rfl rfl (Qc rfl rfl (QO rfl rfl (Xc rfl rfl rfl (WpL.nil (Qh rfl (fun h3 => ?_) (fun h3 => ?_)))))))))
    ·have hlt : k < px.length := by omega
     have hpb := hr _ (List.getElem_mem hlt)
     refine Wp.skip (Qb (Wp.block ?_))
     refine Qb ?_
     apply Q3 mixed [⟨31, _, []⟩, ⟨32, _, []⟩, ⟨33, _, [0, 1]⟩, ⟨34, _, [2]⟩, ⟨35, _, []⟩, ⟨36, _, [4]⟩, ⟨37, _, [3, 5]⟩, ⟨9, _, [6, 0, 1, 2, 3, 4, 5]⟩] rfl
     ·refine AllObs.mk ?_ ?_
      ·exact Qc rfl rfl (Qn rfl)
      refine AllObs.mk ?_ ?_
      ·exact Qc rfl rfl (Qn rfl)
      refine AllObs.mk ?_ ?_
      ·refine Xs k rfl rfl rfl hA (by exact Take.ent' (by repeat' constructor)) rfl (by omega) (by rw [Zf]; omega) ?_
       exact Qn rfl
      refine AllObs.mk ?_ ?_
      ·refine Xv rfl rfl hA (by exact Take.ent' (by repeat' constructor)) (pxs_at px hlt) ?_
       exact Qn rfl
      refine AllObs.mk ?_ ?_
      ·refine Qz (vs := [_, _, _, _]) rfl rfl rfl (by rfl) ?_
       exact Qn rfl
      refine AllObs.mk ?_ ?_
      ·refine Qk rfl rfl (by repeat' constructor) (Za _ _ _ _ (by omega) (by omega)) ?_
       rintro _ _ ⟨rfl, rfl⟩
       simp only [Qv]
       exact WpL.nil ⟨rfl, rfl, rfl, by exact Ent.refl _⟩
      refine AllObs.mk ?_ ?_
      ·refine Qk rfl rfl (by repeat' constructor) (rFits_spec _ _ _ hpb.1 hpb.2) ?_
       rintro _ _ ⟨rfl, rfl⟩
       simp only [Qv]
       exact WpL.nil ⟨rfl, rfl, rfl, by exact Ent.refl _⟩
      refine AllObs.mk ?_ ?_
      ·exact Qd rfl rfl (Qn rfl)
      exact AllObs.nil
     ·refine Qb (Qb (Qa (Qc rfl rfl (Yt rfl rfl (WpL.nil (Qh rfl (fun hpf => ?_) (fun hpf => ?_)))))))
      ·refine Qb (Qa (Qd rfl rfl (Qd rfl rfl (WpL.nil (Qg ?_)))))
       apply RetQ.mk
       ·exact (QX rfl rfl rfl)
       ·exact ⟨_, _, rfl, .inr ⟨fun h => hpf (h.2.2 _ (List.getElem_mem hlt)), rfl, rfl⟩, rfl⟩
       ·exact Take.ent' (by repeat' constructor)
      ·have hpf := Classical.not_not.1 hpf
       have hcan := can_of_fit hpb.1 hpb.2 hpf
       have hchp : (Qw px[k]).length = 1 ∨ (Qw px[k]).length = 3 := by have h1 := hcan.1; have h2 := chK_or K; omega
       refine Wp.skip (Qb (Qa (Qc rfl rfl (Qc rfl rfl (Xs k rfl rfl rfl hA (by exact Take.ent' (by repeat' constructor)) rfl (by omega) (by rw [Zf]; omega) ?_)))))
       refine Xv rfl rfl hA (by exact Take.ent' (by repeat' constructor)) (pxs_at px hlt) ?_
       refine Qk rfl rfl (by repeat' constructor) (Vj _ hpb.1 hpb.2) ?_
       rintro _ _ ⟨A1, a1, c1, rfl, rfl, hA1, hn1⟩
       simp only [Qv]
       refine Qd rfl rfl (WpL.nil (Qb (Qb (Qa (Qd rfl rfl (WpL.nil (Wp.block ?_)))))))
       refine Wp.loopD (σ := WrX) (fun y => y.k ≤ (Qw px[k]).length ∧ QZ y.s = wrL K W 0 (px.take k) ++ pj (Qw px[k]) y.k ∧ y.s.size ≤ k * 300000 + y.k * 70000) [7, 11, 45, 46, 47, 48, 49, 50, 51, 52, 53, 54, 55, 56, 57, 58, 59, 60, 61, 62, 63, 64] (fun y => [(11, .int .i64 (y.k : Int)), (7, .string y.s)]) (fun y => [A1, QD g1 [.int .i64 K, .int .i64 W, .int .i64 H, .int .i64 M] 113, A0]) (fun y => (Qw px[k]).length - y.k) ⟨0, s⟩ ?_ (by repeat (first | exact FrLe.nil | refine FrLe.cons rfl ?_)) ?_ ?_
       ·exact ⟨Nat.zero_le _, by simp only; rw [pj_zero, List.append_nil]; exact hbs, by rw [Nat.zero_mul, Nat.add_zero]; exact hsz⟩
       ·exact Ent.refl _
       ·rintro ⟨j, s2⟩ ⟨hj, hjb, hjz⟩
        dsimp only at hj hjb hjz ⊢
        refine Qb (Qb (Qa (Qc rfl rfl (Qc rfl rfl (QO rfl rfl (Xc rfl rfl rfl (WpL.nil (Qh rfl (fun h6 => ?_) (fun h6 => ?_)))))))))
        ·have hlj : j < (Qw px[k]).length := by omega
         have hsm := hcan.2.2 _ (List.getElem_mem hlj)
         refine Wp.skip (Qb (Wp.block ?_))
         refine Qb (Qa (Qc rfl rfl (Qc rfl rfl (Qc rfl rfl (Xs j rfl rfl rfl hA1 (by exact Take.ent' (by repeat' constructor)) rfl (by omega) (by rw [Xm]; omega) ?_)))))
         refine Xv rfl rfl hA1 (by exact Take.ent' (by repeat' constructor)) (XO (Qw px[k]) hlj) ?_
         refine Qk rfl rfl (by repeat' constructor) (Decimal_spec _ hsm.1 (by omega)) ?_
         rintro _ _ ⟨s1, rfl, hs1, rfl⟩
         simp only [Qv]
         have hz1 : s1.size ≤ 65536 := by rw [← Xa, hs1]; have := Zh ((Qw px[k])[j]).toNat; omega
         refine Zq rfl rfl rfl (by omega) ?_
         refine Qd rfl rfl (WpL.nil (Qb (Qa (Qc rfl rfl (Qc rfl rfl (QO rfl rfl (Zr rfl rfl rfl (Qp (by omega) (by omega)) ?_)))))))
         refine Xc rfl rfl rfl (WpL.nil (Qh rfl (fun h7 => ?_) (fun h7 => ?_)))
         ·refine Qa (Qc rfl rfl (Zq rfl rfl rfl (by rw [ByteArray.size_append]; have : (⟨#[32]⟩ : ByteArray).size = 1 := rfl; omega) ?_))
          refine Qd rfl rfl (WpL.nil (Qa (Qc rfl rfl (Qx rfl rfl rfl (Qp (by omega) (by omega)) ?_))))
          refine Qd rfl rfl (WpL.nil (Qq (⟨j + 1, s2 ++ s1 ++ ⟨#[32]⟩⟩ : WrX) ?_ ?_ (by ((repeat (first | exact Top.refl | refine Top.push rfl ?_)); done)) (by repeat (first | exact FrLe.nil | refine FrLe.cons rfl ?_)) ?_))
          ·refine ⟨by simp only; omega, ?_, ?_⟩
           ·simp only
            rw [YA, YA, hjb, hs1, ← pj_more hchp (by omega), show QZ ⟨#[32]⟩ = [32] from rfl]
            simp only [List.append_assoc]
           ·simp only [ByteArray.size_append]; have : (⟨#[32]⟩ : ByteArray).size = 1 := rfl; omega
          ·simp only; omega
          ·exact Ent.refl _
         ·refine Wp.skip (Qa (Qc rfl rfl (Qx rfl rfl rfl (Qp (by omega) (by omega)) ?_)))
          refine Qd rfl rfl (WpL.nil (Qq (⟨j + 1, s2 ++ s1⟩ : WrX) ?_ ?_ (by ((repeat (first | exact Top.refl | refine Top.push rfl ?_)); done)) (by repeat (first | exact FrLe.nil | refine FrLe.cons rfl ?_)) ?_))
          ·refine ⟨by simp only; omega, ?_, ?_⟩
           ·simp only
            rw [YA, hjb, hs1, ← pj_end hchp (by omega)]
            simp only [List.append_assoc]
           ·simp only [ByteArray.size_append]; omega
          ·simp only; omega
          ·exact Ent.refl _
        ·have hje : j = (Qw px[k]).length := by omega
         have hjs : pj (Qw px[k]) j = Y8 (Qw px[k]) := by rw [hje, pj_all]
         rw [hjs] at hjb
         have hm0 := Int.emod_nonneg (k : Int) (show W ≠ 0 by omega)
         have hm1 := Int.emod_lt_of_pos (k : Int) (show 0 < W by omega)
         refine QV (Qb (Qa (Qc rfl rfl (Qj (o2 := 1) rfl rfl rfl (Qm rfl rfl (by rfl) ?_)))))
         refine YO rfl rfl rfl (by omega) (by omega) ?_
         refine Qd rfl rfl (WpL.nil (Qb (Qa (Qj (o2 := 0) rfl rfl rfl (Qm rfl rfl (by rfl) ?_)))))
         refine XJ rfl rfl rfl (Qc rfl rfl (QP rfl rfl rfl (fun hg1 => ?_) (fun hg1 => ?_)))
         ·have hg1 := of_decide_eq_false hg1
          refine Qc rfl rfl (Qf rfl rfl (Qj (o2 := 1) rfl rfl rfl (Qf rfl rfl (Qm rfl rfl (by rfl) ?_))))
          refine Qf rfl rfl (Zr rfl rfl rfl (Qp (by omega) (by omega)) ?_)
          refine Qf rfl rfl (QJ rfl rfl rfl (Qu rfl rfl rfl (Qc rfl rfl (QP rfl rfl rfl (fun hg2 => ?_) (fun hg2 => ?_)))))
          ·have hg2 := of_decide_eq_false hg2
           refine Qc rfl rfl (Qf rfl rfl (YO rfl rfl rfl (by omega) (by omega) ?_))
           refine Qf rfl rfl (QJ rfl rfl rfl (Qu rfl rfl rfl (WpL.nil (Qh rfl (fun h8 => ?_) (fun h8 => ?_)))))
           ·refine Qa (Qc rfl rfl (Zq rfl rfl rfl (by have : (⟨#[10]⟩ : ByteArray).size = 1 := rfl; omega) ?_))
            refine Qd rfl rfl (WpL.nil (Qa (Qc rfl rfl (Qx rfl rfl rfl (Qp (by omega) (by omega)) ?_))))
            refine Qd rfl rfl (WpL.nil (Qq (⟨k + 1, s2 ++ ⟨#[10]⟩⟩ : WrX) ?_ ?_ (by ((repeat (first | exact Top.refl | refine Top.push rfl ?_)); done)) (by repeat (first | exact FrLe.nil | refine FrLe.cons rfl ?_)) ?_))
            ·refine ⟨by simp only; omega, ?_, fun p hp => ?_, ?_⟩
             ·simp only
              rw [YA, show QZ ⟨#[10]⟩ = [10] from rfl, wr_take hlt, ← List.append_assoc]
              exact nl_t (.inr (.inr (by omega))) hjb.symm
             ·rw [XU px hlt] at hp
              rcases List.mem_append.1 hp with hp | hp
              ·exact hfit p hp
              ·have := List.mem_singleton.1 hp; subst this; exact hpf
             ·simp only [ByteArray.size_append]; have : (⟨#[10]⟩ : ByteArray).size = 1 := rfl; omega
            ·simp only; omega
            ·exact Take.ent' (by repeat' constructor)
           ·refine Wp.skip (Qa (Qc rfl rfl (Qx rfl rfl rfl (Qp (by omega) (by omega)) ?_)))
            refine Qd rfl rfl (WpL.nil (Qq (⟨k + 1, s2⟩ : WrX) ?_ ?_ (by ((repeat (first | exact Top.refl | refine Top.push rfl ?_)); done)) (by repeat (first | exact FrLe.nil | refine FrLe.cons rfl ?_)) ?_))
            ·refine ⟨by simp only; omega, ?_, fun p hp => ?_, ?_⟩
             ·simp only
              rw [wr_take hlt, ← List.append_assoc]
              exact nl_f (by omega) (by omega) (by omega) hjb.symm
             ·rw [XU px hlt] at hp
              rcases List.mem_append.1 hp with hp | hp
              ·exact hfit p hp
              ·have := List.mem_singleton.1 hp; subst this; exact hpf
             ·simp only; omega
            ·simp only; omega
            ·exact Take.ent' (by repeat' constructor)
          ·have hg2 := of_decide_eq_true hg2
           refine Qe rfl rfl rfl (by decide) (Qe rfl rfl rfl (by decide) (Qr rfl rfl rfl (WpL.nil (Xg rfl (Qa (Qc rfl rfl (Zq rfl rfl rfl (by have : (⟨#[10]⟩ : ByteArray).size = 1 := rfl; omega) ?_)))))))
           refine Qd rfl rfl (WpL.nil (Qa (Qc rfl rfl (Qx rfl rfl rfl (Qp (by omega) (by omega)) ?_))))
           refine Qd rfl rfl (WpL.nil (Qq (⟨k + 1, s2 ++ ⟨#[10]⟩⟩ : WrX) ?_ ?_ (by ((repeat (first | exact Top.refl | refine Top.push rfl ?_)); done)) (by repeat (first | exact FrLe.nil | refine FrLe.cons rfl ?_)) ?_))
           ·refine ⟨by simp only; omega, ?_, fun p hp => ?_, ?_⟩
            ·simp only
             rw [YA, show QZ ⟨#[10]⟩ = [10] from rfl, wr_take hlt, ← List.append_assoc]
             exact nl_t (.inr (.inl (by omega))) hjb.symm
            ·rw [XU px hlt] at hp
             rcases List.mem_append.1 hp with hp | hp
             ·exact hfit p hp
             ·have := List.mem_singleton.1 hp; subst this; exact hpf
            ·simp only [ByteArray.size_append]; have : (⟨#[10]⟩ : ByteArray).size = 1 := rfl; omega
           ·simp only; omega
           ·exact Take.ent' (by repeat' constructor)
         ·have hg1 := of_decide_eq_true hg1
          refine Qe rfl rfl rfl (by decide) (Qe rfl rfl rfl (by decide) (Qe rfl rfl rfl (by decide) (Qe rfl rfl rfl (by decide) (Qr rfl rfl rfl (Qc rfl rfl (Qe rfl rfl rfl (by decide) (Qe rfl rfl rfl (by decide) (Qe rfl rfl rfl (by decide) (Qr rfl rfl rfl (WpL.nil (Xg rfl (Qa ?_))))))))))))
          refine Qc rfl rfl (Zq rfl rfl rfl (by have : (⟨#[10]⟩ : ByteArray).size = 1 := rfl; omega) ?_)
          refine Qd rfl rfl (WpL.nil (Qa (Qc rfl rfl (Qx rfl rfl rfl (Qp (by omega) (by omega)) ?_))))
          refine Qd rfl rfl (WpL.nil (Qq (⟨k + 1, s2 ++ ⟨#[10]⟩⟩ : WrX) ?_ ?_ (by ((repeat (first | exact Top.refl | refine Top.push rfl ?_)); done)) (by repeat (first | exact FrLe.nil | refine FrLe.cons rfl ?_)) ?_))
          ·refine ⟨by simp only; omega, ?_, fun p hp => ?_, ?_⟩
           ·simp only
            rw [YA, show QZ ⟨#[10]⟩ = [10] from rfl, wr_take hlt, ← List.append_assoc]
            exact nl_t (.inl (by omega)) hjb.symm
           ·rw [XU px hlt] at hp
            rcases List.mem_append.1 hp with hp | hp
            ·exact hfit p hp
            ·have := List.mem_singleton.1 hp; subst this; exact hpf
           ·simp only [ByteArray.size_append]; have : (⟨#[10]⟩ : ByteArray).size = 1 := rfl; omega
          ·simp only; omega
          ·exact Take.ent' (by repeat' constructor)
    ·refine QV (Qb (Qa (Qc rfl rfl (Qd rfl rfl (Qd rfl rfl (WpL.nil (Qg ?_)))))))
     apply RetQ.mk
     ·exact (QX rfl rfl rfl)
     ·have hke : k = px.length := by omega
      have hz : s.size ≤ px.length * 300000 := by rw [← hke]; exact hsz
      rw [hke, List.take_length] at hfit hbs
      exact ⟨_, _, rfl, .inl ⟨⟨hP, by omega, hfit⟩, rfl, hbs, hz⟩, rfl⟩
     ·exact Take.ent' (by repeat' constructor)

end Go.Proofs.YtggamdlpiejbiaaGreat
namespace Go.Proofs.YtggamdlpiejbiaaGreat
open Go.RowKit Go.Shelf


theorem unpackS_bd (p : Int) : ∀ x ∈ Qw p, 0 ≤ x ∧ x ≤ 65535 := by
  intro x hx
  unfold Qw at hx
  split at hx
  · simp at hx; omega
  · split at hx
    · simp at hx; omega
    · simp at hx
end Go.Proofs.YtggamdlpiejbiaaGreat
namespace Go.Proofs.YtggamdlpiejbiaaGreat
open Go.RowKit Go.Shelf


theorem u8s_app (xs ys : List Int) : XY xs ++ XY ys = XY (xs ++ ys) := by simp [XY]
end Go.Proofs.YtggamdlpiejbiaaGreat
namespace Go.Proofs.YtggamdlpiejbiaaGreat
open Go.RowKit Go.Shelf


theorem digs_len5 {x : Int} (h : x ≤ 65535) : 1 ≤ (X0 x.toNat).length ∧ (X0 x.toNat).length ≤ 5 := by
  rw [lowD_digs, List.length_reverse, List.length_map]
  obtain ⟨t, ht⟩ := lowD_head 10 x.toNat
  have := lowD_len20 (b := 10) (n := x.toNat) (by omega) 4 (by omega)
  rw [ht] at this ⊢
  simp only [List.length_cons] at this ⊢
  omega
theorem joinB_len : ∀ (xs : List Int), (∀ x ∈ xs, x ≤ 65535) → (Y8 xs).length ≤ 6 * xs.length ∧ (xs ≠ [] → 1 ≤ (Y8 xs).length)
  | [], _ => by simp [Y8]
  | [x], h => by
    have := digs_len5 (h x (by simp))
    simp only [Y8, List.length_cons, List.length_nil]; omega
  | x :: y :: xs, h => by
    have h1 := digs_len5 (h x (by simp))
    have h2 := joinB_len (y :: xs) fun z hz => h z (by simp [hz])
    simp only [Y8, List.length_append, List.length_cons] at h2 ⊢; omega
theorem joinB_byte : ∀ (xs : List Int), ∀ b ∈ Y8 xs, 0 ≤ b ∧ b ≤ 255
  | [], b, hb => by simp [Y8] at hb
  | [x], b, hb => by have := digs_bd _ b hb; omega
  | x :: y :: xs, b, hb => by
    rw [Y8] at hb
    rcases List.mem_append.1 hb with hb | hb
    · have := digs_bd _ b hb; omega
    · rcases List.mem_cons.1 hb with hb | hb
      · omega
      · exact joinB_byte (y :: xs) b hb
theorem wrL_len {K W : Int} : ∀ (l : List Int) (i : Nat), (wrL K W i l).length ≤ 20 * l.length
  | [], i => by simp [wrL]
  | p :: l, i => by
    have h1 := wrL_len (K := K) (W := W) l (i + 1)
    have h2 := (joinB_len (Qw p) fun x hx => (unpackS_bd p x hx).2).1
    have h3 := unpackS_len p
    simp only [wrL, pxB, List.length_append, List.length_cons]
    split <;> simp <;> omega
theorem wrL_byte {K W : Int} : ∀ (l : List Int) (i : Nat), ∀ b ∈ wrL K W i l, 0 ≤ b ∧ b ≤ 255
  | [], i, b, hb => by simp [wrL] at hb
  | p :: l, i, b, hb => by
    rw [wrL, pxB] at hb
    rcases List.mem_append.1 hb with hb | hb
    · rcases List.mem_append.1 hb with hb | hb
      · exact joinB_byte _ b hb
      · split at hb
        · simp at hb; omega
        · simp at hb
    · exact wrL_byte l (i + 1) b hb
theorem digs_str (n : Nat) : QZ (strOfNums (X0 n)) = X0 n := Zv fun x hx => by have := digs_bd n x hx; omega
end Go.Proofs.YtggamdlpiejbiaaGreat
