/- Walks. -/
import Derived.Test.YtpoahaadnbdgcaaLw2
namespace Go.Proofs.Ytpoahaadnbdgcaa
open Go.RowKit Go.Shelf


/-! ### What a run of bytes does -/
def digs (n : Nat) : List Int := if n < 10 then [48 + (n : Int)] else digs (n / 10) ++ [48 + ((n % 10 : Nat) : Int)]
termination_by n
decreasing_by omega
def smpR (K W H : Int) (s : RS) (x : Int) : RS × List Int := fullR W H (sampleR (chK K) s x)
inductive Feed (K M : Int) : List Int → List Int → Prop
  | nil : Feed K M [] []
  | blank {c : Int} {bs ss : List Int} (h : blankB c = true) (f : Feed K M bs ss) : Feed K M (c :: bs) ss
  | bit {x : Int} {bs ss : List Int} (hK : K = 1) (hx : x = 0 ∨ x = 1) (f : Feed K M bs ss) : Feed K M ((48 + x) :: bs) (x :: ss)
  | num {n : Nat} {c : Int} {bs ss : List Int} (hK : K ≠ 1) (h1 : (n : Int) ≤ M) (h : blankB c = true) (f : Feed K M bs ss) : Feed K M (digs n ++ c :: bs) ((n : Int) :: ss)
inductive Go1 (K W H M : Int) : List Int → RS → RS → List Int → Prop
  | nil {s : RS} : Go1 K W H M [] s s []
  | cons {c : Int} {bs out : List Int} {s s' : RS} (h : (putR K W H M s c).1.last = 0) (g : Go1 K W H M bs (putR K W H M s c).1 s' out) : Go1 K W H M (c :: bs) s s' ((putR K W H M s c).2 ++ out)
section
variable {K W H M : Int}
theorem Go1.app {bs cs o1 o2 : List Int} {s s1 s2 : RS} (h : Go1 K W H M bs s s1 o1) (g : Go1 K W H M cs s1 s2 o2) : Go1 K W H M (bs ++ cs) s s2 (o1 ++ o2) := by
  induction h with
  | nil => exact g
  | cons h _ ih => rw [List.append_assoc]; exact .cons h (ih g)
theorem Go1.one {c : Int} {s s' : RS} {o : List Int} (h : putR K W H M s c = (s', o)) (hl : s'.last = 0) : Go1 K W H M [c] s s' o := by
  have := Go1.cons (K := K) (W := W) (H := H) (M := M) (c := c) (s := s) (by rw [h]; exact hl) (Go1.nil)
  rw [h] at this
  simpa using this
theorem Go1.readL {bs out : List Int} {s s' : RS} (h : Go1 K W H M bs s s' out) : ∀ (cs : List Int) (i : Int) (acc : List Int), readL K W H M (bs ++ cs) i s acc = readL K W H M cs (i + bs.length) s' (acc ++ out) := by
  induction h with
  | nil => intro cs i acc; simp
  | cons h _ ih =>
    intro cs i acc
    rw [List.cons_append, Go.Proofs.Ytpoahaadnbdgcaa.readL, if_neg (by omega), if_neg (by omega), ih]
    simp only [List.length_cons, List.append_assoc]
    congr 1
    omega
theorem Go1.fold {bs out : List Int} {s s' : RS} (h : Go1 K W H M bs s s' out) : bs.foldl (fun s c => (putR K W H M s c).1) s = s' := by
  induction h with
  | nil => rfl
  | cons h _ ih => exact ih
def Cl (W : Int) (s : RS) : Prop := s.n = -1 ∧ s.last = 0 ∧ (s.row.length : Int) < W
theorem dig_step {n rows e : Int} {one row : List Int} {d : Nat} (hK : K ≠ 1) (hd : d < 10) (hr : (row.length : Int) < W) (hm : 10 * max n 0 + d ≤ M) :
    putR K W H M ⟨n, one, row, rows, 0, e⟩ (48 + (d : Int)) = (⟨10 * max n 0 + d, one, row, rows, 0, e⟩, []) := by
  have hst : stepN (max n 0) (48 + (d : Int)) M = (10 * max n 0 + d, 0) := by
    unfold stepN
    rw [if_neg (by omega), if_neg (by omega)]
    exact Prod.ext (by simp only; omega) rfl
  have hb : blankB (48 + (d : Int)) = false := decide_eq_false (by omega)
  rw [stp_n0 rfl hr hK hb (by rw [hst]; simp) (by rw [hst]), hst]
theorem dig_run (hK : K ≠ 1) : ∀ (n : Nat) (one row : List Int) (rows e : Int), (n : Int) ≤ M → (row.length : Int) < W → Go1 K W H M (digs n) ⟨-1, one, row, rows, 0, e⟩ ⟨n, one, row, rows, 0, e⟩ [] := by
  intro n
  induction n using Nat.strongRecOn with
  | _ n ih =>
    intro one row rows e hM hr
    rw [digs]
    by_cases h : n < 10
    · rw [if_pos h]
      have := dig_step (K := K) (W := W) (H := H) (M := M) (n := -1) (rows := rows) (e := e) (one := one) (row := row) (d := n) hK h hr (by omega)
      rw [show (10 * max (-1) 0 + (n : Int)) = n by omega] at this
      exact Go1.one this rfl
    · rw [if_neg h]
      have h1 := ih (n / 10) (by omega) one row rows e (by omega) hr
      have h2 := dig_step (K := K) (W := W) (H := H) (M := M) (n := ((n / 10 : Nat) : Int)) (rows := rows) (e := e) (one := one) (row := row) (d := n % 10) hK (by omega) hr (by omega)
      rw [show (10 * max ((n / 10 : Nat) : Int) 0 + ((n % 10 : Nat) : Int)) = n by omega] at h2
      exact h1.app (Go1.one h2 rfl)
def foldS (K W H : Int) : List Int → RS → Bool × RS × List Int
  | [], s => (false, s, [])
  | x :: xs, s => if (smpR K W H s x).1.last = 1 then (true, (smpR K W H s x).1, (smpR K W H s x).2) else ((foldS K W H xs (smpR K W H s x).1).1, (foldS K W H xs (smpR K W H s x).1).2.1, (smpR K W H s x).2 ++ (foldS K W H xs (smpR K W H s x).1).2.2)
theorem smpR_cl {s : RS} {x : Int} (hW : 1 ≤ W) (h : Cl W s) : (smpR K W H s x).1.last = 1 ∨ Cl W (smpR K W H s x).1 := by
  obtain ⟨h1, h2, h3⟩ := h
  unfold smpR fullR sampleR
  split
  · rename_i hr; exact .inr ⟨h1, h2, hr⟩
  · simp only
    split
    · exact .inl rfl
    · exact .inr ⟨h1, h2, by simp; omega⟩
theorem put_bit {s : RS} {x : Int} (hK : K = 1) (hx : x = 0 ∨ x = 1) (hs : Cl W s) : putR K W H M s (48 + x) = smpR K W H s x := by
  obtain ⟨n, one, row, rows, last, e⟩ := s
  rw [stp_b1 hs.2.1 hK (decide_eq_false (by omega)) (by omega), show (48 + x - 48 : Int) = x by omega]
  rfl
theorem put_blank {s : RS} {c : Int} (h : blankB c = true) (hs : Cl W s) : putR K W H M s c = (s, []) := by
  obtain ⟨n, one, row, rows, last, e⟩ := s
  exact stp_bn hs.2.1 hs.2.2 hs.1 h
theorem put_end {one row : List Int} {rows e c : Int} {n : Nat} (hK : K ≠ 1) (h : blankB c = true) : putR K W H M ⟨n, one, row, rows, 0, e⟩ c = smpR K W H ⟨-1, one, row, rows, 0, e⟩ n :=
  stp_bs rfl (by omega) (fun x => absurd x hK) h
theorem feed_on (hW : 1 ≤ W) {bs ss : List Int} (f : Feed K M bs ss) : ∀ (s s' : RS) (out : List Int), Cl W s → foldS K W H ss s = (false, s', out) → Go1 K W H M bs s s' out := by
  induction f with
  | nil =>
    intro s s' out hs h
    simp only [foldS, Prod.mk.injEq, true_and] at h
    obtain ⟨rfl, rfl⟩ := h
    exact .nil
  | blank hb f ih =>
    intro s s' out hs h
    exact (Go1.one (put_blank hb hs) hs.2.1).app (ih s s' out hs h)
  | @bit x bs ss hK hx f ih =>
    intro s s' out hs h
    rw [foldS] at h
    split at h
    · cases h
    · rename_i hl
      have hc := (smpR_cl hW hs).resolve_left hl
      simp only [Prod.mk.injEq] at h
      obtain ⟨h1, rfl, rfl⟩ := h
      have h3 := ih _ _ _ hc (Prod.ext h1 rfl)
      exact (Go1.one (o := (smpR K W H s x).2) (put_bit hK hx hs) hc.2.1).app h3
  | @num n c bs ss hK hM hb f ih =>
    intro s s' out hs h
    rw [foldS] at h
    split at h
    · cases h
    · rename_i hl
      have hc := (smpR_cl hW hs).resolve_left hl
      simp only [Prod.mk.injEq] at h
      obtain ⟨h1, rfl, rfl⟩ := h
      have h3 := ih _ _ _ hc (Prod.ext h1 rfl)
      obtain ⟨n0, one, row, rows, last, e⟩ := s
      obtain ⟨rfl, rfl, hr⟩ := hs
      have h4 := dig_run (H := H) hK n one row rows e hM hr
      have h5 := (Go1.one (o := (smpR K W H ⟨-1, one, row, rows, 0, e⟩ n).2) (put_end (M := M) hK hb) hc.2.1).app h3
      exact h4.app h5
theorem feed_over (hW : 1 ≤ W) {bs ss : List Int} (f : Feed K M bs ss) : ∀ (s s' : RS) (out : List Int), Cl W s → foldS K W H ss s = (true, s', out) → ∀ (i : Int) (acc : List Int), ∃ j, readL K W H M bs i s acc = (acc ++ out, j, 0) := by
  have one : ∀ (c : Int) (bs : List Int) (s : RS) (x : Int), putR K W H M s c = smpR K W H s x → (smpR K W H s x).1.last = 1 → ∀ (i : Int) (acc : List Int), readL K W H M (c :: bs) i s acc = (acc ++ (smpR K W H s x).2, i + 1, 0) := by
    intro c bs s x h hl i acc
    rw [readL, h, if_pos hl]
  have two : ∀ (c : Int) (bs : List Int) (s s1 : RS) (x : Int), putR K W H M s c = smpR K W H s1 x → Cl W (smpR K W H s1 x).1 → ∀ (i : Int) (acc : List Int), readL K W H M (c :: bs) i s acc = readL K W H M bs (i + 1) (smpR K W H s1 x).1 (acc ++ (smpR K W H s1 x).2) := by
    intro c bs s s1 x h hl i acc
    have := hl.2.1
    rw [readL, h, if_neg (by omega), if_neg (by omega)]
  induction f with
  | nil =>
    intro s s' out hs h
    simp [foldS] at h
  | @blank c BS ss hb f ih =>
    intro s s' out hs h i acc
    obtain ⟨j, hj⟩ := ih s s' out hs h (i + 1) acc
    have := (Go1.one (K := K) (H := H) (M := M) (put_blank hb hs) hs.2.1).readL
    refine ⟨j, ?_⟩
    have h2 := this BS i acc
    simp only [List.cons_append, List.nil_append, List.append_nil] at h2
    rw [h2]
    exact hj
  | @bit x bs ss hK hx f ih =>
    intro s s' out hs h i acc
    rw [foldS] at h
    split at h
    · rename_i hl
      simp only [Prod.mk.injEq, true_and] at h
      obtain ⟨rfl, rfl⟩ := h
      exact ⟨_, one _ _ _ _ (put_bit hK hx hs) hl i acc⟩
    · rename_i hl
      have hc := (smpR_cl hW hs).resolve_left hl
      simp only [Prod.mk.injEq] at h
      obtain ⟨h1, rfl, rfl⟩ := h
      obtain ⟨j, hj⟩ := ih _ _ _ hc (Prod.ext h1 rfl) (i + 1) (acc ++ (smpR K W H s x).2)
      exact ⟨j, by rw [two _ _ _ _ _ (put_bit hK hx hs) hc, hj, List.append_assoc]⟩
  | @num n c bs ss hK hM hb f ih =>
    intro s s' out hs h i acc
    obtain ⟨n0, one', row, rows, last, e⟩ := s
    have hs0 := hs
    obtain ⟨rfl, rfl, hr⟩ := hs
    have h4 := (dig_run (H := H) hK n one' row rows e hM hr).readL (c :: bs) i acc
    rw [List.append_nil] at h4
    rw [foldS] at h
    split at h
    · rename_i hl
      simp only [Prod.mk.injEq, true_and] at h
      obtain ⟨rfl, rfl⟩ := h
      refine ⟨i + ((digs n).length : Int) + 1, h4.trans ?_⟩
      rw [readL, put_end hK hb, if_pos hl]
    · rename_i hl
      have hc := (smpR_cl hW hs0).resolve_left hl
      simp only [Prod.mk.injEq] at h
      obtain ⟨h1, rfl, rfl⟩ := h
      obtain ⟨j, hj⟩ := ih _ _ _ hc (Prod.ext h1 rfl) (i + (digs n).length + 1) (acc ++ (smpR K W H ⟨-1, one', row, rows, 0, e⟩ n).2)
      exact ⟨j, by rw [h4, two _ _ _ _ _ (put_end hK hb) hc, hj, List.append_assoc]⟩
end


/-! ### Pixels and rows -/
theorem pack_one {x : Int} (h : smp x) : packS [x] = (281474976710656 + x, 0) := by
  unfold smp at h
  rw [packS_ok [x] (.inl rfl) (by intro n hn; simp at hn; subst hn; exact h)]
  exact Prod.ext (by simp [packF]; omega) rfl
theorem pack_three {x y z : Int} (h : smp x) (h2 : smp y) (h3 : smp z) : packS [x, y, z] = (((x * 65536 + y) * 65536 + z) + 3 * 281474976710656, 0) := by
  rw [packS_ok [x, y, z] (.inr rfl) (by intro n hn; simp at hn; rcases hn with rfl | rfl | rfl <;> assumption)]
  exact Prod.ext (by simp [packF]) rfl
theorem unpack_pack {xs : List Int} (h : xs.length = 1 ∨ xs.length = 3) (hs : ∀ n ∈ xs, smp n) : unpackS (packS xs).1 = xs := by
  match xs, h with
  | [x], _ =>
    have hx := hs x (by simp)
    rw [pack_one hx]
    unfold smp at hx
    unfold unpackS
    rw [if_neg (by simp only; omega), if_pos (by simp only; omega)]
    simp only
    congr 1
    omega
  | [x, y, z], _ =>
    have hx := hs x (by simp)
    have hy := hs y (by simp)
    have hz := hs z (by simp)
    rw [pack_three hx hy hz]
    unfold smp at hx hy hz
    unfold unpackS
    rw [if_pos (by simp only; omega)]
    simp only [List.cons.injEq, and_true]
    refine ⟨by omega, by omega, by omega⟩
  | [_, _], h => simp at h
  | _ :: _ :: _ :: _ :: _, h => simp at h
/-- A pixel of a format. -/
def Can (ch M p : Int) : Prop := ((unpackS p).length : Int) = ch ∧ (packS (unpackS p)).1 = p ∧ ∀ x ∈ unpackS p, 0 ≤ x ∧ x ≤ M
theorem can_pack {xs : List Int} {ch M : Int} (hc : ch = 1 ∨ ch = 3) (h : (xs.length : Int) = ch) (hM : M ≤ 65535) (hs : ∀ n ∈ xs, 0 ≤ n ∧ n ≤ M) : Can ch M (packS xs).1 := by
  have hu := unpack_pack (xs := xs) (by omega) (fun n hn => by have := hs n hn; unfold smp; omega)
  unfold Can
  rw [hu]
  exact ⟨h, rfl, hs⟩
section
variable {K W H M : Int}
theorem foldS_step {xs ss row : List Int} {rows : Int} (hl : (xs.length : Int) = chK K) (hr : (row.length : Int) < W) :
    foldS K W H (xs ++ ss) ⟨-1, [], row, rows, 0, 0⟩ = if (fullR W H ⟨-1, [], row ++ [(packS xs).1], rows, 0, 0⟩).1.last = 1 then (true, (fullR W H ⟨-1, [], row ++ [(packS xs).1], rows, 0, 0⟩).1, (fullR W H ⟨-1, [], row ++ [(packS xs).1], rows, 0, 0⟩).2)
      else ((foldS K W H ss (fullR W H ⟨-1, [], row ++ [(packS xs).1], rows, 0, 0⟩).1).1, (foldS K W H ss (fullR W H ⟨-1, [], row ++ [(packS xs).1], rows, 0, 0⟩).1).2.1, (fullR W H ⟨-1, [], row ++ [(packS xs).1], rows, 0, 0⟩).2 ++ (foldS K W H ss (fullR W H ⟨-1, [], row ++ [(packS xs).1], rows, 0, 0⟩).1).2.2) := by
  have hch : chK K = 1 ∨ chK K = 3 := by unfold chK; split <;> simp
  have last : ∀ (one : List Int) (x : Int), ((one ++ [x]).length : Int) = chK K → smpR K W H ⟨-1, one, row, rows, 0, 0⟩ x = fullR W H ⟨-1, [], row ++ [(packS (one ++ [x])).1], rows, 0, 0⟩ := by
    intro one x h
    have e1 : sampleS (chK K) one row x = ([], row ++ [(packS (one ++ [x])).1]) := if_pos h
    simp only [smpR, sampleR, e1]
  have more : ∀ (one : List Int) (x : Int), ((one ++ [x]).length : Int) ≠ chK K → smpR K W H ⟨-1, one, row, rows, 0, 0⟩ x = (⟨-1, one ++ [x], row, rows, 0, 0⟩, []) := by
    intro one x h
    have e1 : sampleS (chK K) one row x = (one ++ [x], row) := if_neg h
    simp only [smpR, sampleR, e1]
    exact fullR_no hr
  match xs, hl with
  | [x], hl =>
    rw [List.cons_append, List.nil_append, foldS, last [] x hl, List.nil_append]
  | [x, y, z], hl =>
    simp only [List.length_cons, List.length_nil] at hl
    have m1 := more [] x (by simp; omega)
    have m2 := more [x] y (by simp; omega)
    have m3 := last [x, y] z (by simp; omega)
    simp only [napp] at m1 m2 m3
    rw [List.cons_append, List.cons_append, List.cons_append, List.nil_append, foldS, m1, if_neg (by simp), foldS, m2, if_neg (by simp), foldS, m3]
    split <;> simp
  | [], hl => simp at hl; omega
  | [_, _], hl => simp at hl; omega
  | _ :: _ :: _ :: _ :: _, hl => simp at hl; omega
theorem rows_fold (hW : 1 ≤ W) : ∀ (l row : List Int) (rows : Int), (∀ p ∈ l, Can (chK K) M p) → (row.length : Int) < W → rows < H →
    (rows * W + row.length + l.length = H * W → ∃ s', foldS K W H (l.flatMap unpackS) ⟨-1, [], row, rows, 0, 0⟩ = (true, s', row ++ l)) ∧
    (rows * W + row.length + l.length < H * W → ∃ row' rows' out, foldS K W H (l.flatMap unpackS) ⟨-1, [], row, rows, 0, 0⟩ = (false, ⟨-1, [], row', rows', 0, 0⟩, out) ∧ (row'.length : Int) < W ∧ rows' * W + row'.length = rows * W + row.length + l.length ∧ rows' < H)
  | [], row, rows, hp, hr, hq => by
    have h1 : (rows + 1) * W ≤ H * W := Int.mul_le_mul_of_nonneg_right (by omega) (by omega)
    rw [Int.add_mul, Int.one_mul] at h1
    refine ⟨fun h => by simp at h; omega, fun _ => ⟨row, rows, [], rfl, hr, by simp, hq⟩⟩
  | p :: l, row, rows, hp, hr, hq => by
    obtain ⟨hc1, hc2, _⟩ := hp p (by simp)
    have hst := foldS_step (K := K) (W := W) (H := H) (xs := unpackS p) (ss := l.flatMap unpackS) (rows := rows) hc1 hr
    rw [hc2] at hst
    have hl : (((p :: l).length : Nat) : Int) = l.length + 1 := by simp
    by_cases hw : ((row ++ [p]).length : Int) < W
    · have hf : fullR W H ⟨-1, [], row ++ [p], rows, 0, 0⟩ = (⟨-1, [], row ++ [p], rows, 0, 0⟩, []) := fullR_no hw
      rw [hf, if_neg (by simp)] at hst
      have ih := rows_fold hW l (row ++ [p]) rows (fun q hq => hp q (by simp [hq])) hw hq
      have hl2 : ((row ++ [p]).length : Int) = row.length + 1 := by simp
      rw [List.flatMap_cons, hst]
      refine ⟨fun h => ?_, fun h => ?_⟩
      · obtain ⟨s', hs⟩ := ih.1 (by omega)
        exact ⟨s', by rw [hs]; simp⟩
      · obtain ⟨row', rows', out, hs, h1, h2, h3⟩ := ih.2 (by omega)
        exact ⟨row', rows', out, by rw [hs]; simp, h1, by omega, h3⟩
    · have hl2 : ((row ++ [p]).length : Int) = row.length + 1 := by simp
      have hf : fullR W H ⟨-1, [], row ++ [p], rows, 0, 0⟩ = (⟨-1, [], [], rows + 1, if rows + 1 = H then 1 else 0, 0⟩, row ++ [p]) := if_neg hw
      have hm : (rows + 1) * W = rows * W + W := by rw [Int.add_mul, Int.one_mul]
      rw [hf] at hst
      rw [List.flatMap_cons, hst]
      by_cases hH : rows + 1 = H
      · rw [if_pos hH, if_pos rfl]
        subst hH
        refine ⟨fun h => ?_, fun h => by omega⟩
        have : l = [] := List.eq_nil_of_length_eq_zero (by omega)
        subst this
        exact ⟨_, rfl⟩
      · rw [if_neg hH, if_neg (by simp)]
        have ih := rows_fold hW l [] (rows + 1) (fun q hq => hp q (by simp [hq])) (by simp; omega) (by omega)
        simp only [List.length_nil] at ih
        refine ⟨fun h => ?_, fun h => ?_⟩
        · obtain ⟨s', hs⟩ := ih.1 (by omega)
          exact ⟨s', by rw [hs]; simp⟩
        · obtain ⟨row', rows', out, hs, h1, h2, h3⟩ := ih.2 (by omega)
          exact ⟨row', rows', row ++ [p] ++ out, by rw [hs], h1, by omega, h3⟩
/-! ### What is written -/
def joinB : List Int → List Int
  | [] => []
  | [x] => digs x.toNat
  | x :: y :: xs => digs x.toNat ++ 32 :: joinB (y :: xs)
def nlB (K W : Int) (i : Nat) : Bool := decide (K > 1 ∨ (i : Int) % W = W - 1 ∨ (i : Int) % W % 70 = 69)
def pxB (K W : Int) (i : Nat) (p : Int) : List Int := joinB (unpackS p) ++ if nlB K W i = true then [10] else []
def wrL (K W : Int) : Nat → List Int → List Int
  | _, [] => []
  | i, p :: l => pxB K W i p ++ wrL K W (i + 1) l
theorem wrL_snoc (p : Int) : ∀ (l : List Int) (i : Nat), wrL K W i (l ++ [p]) = wrL K W i l ++ pxB K W (i + l.length) p
  | [], i => by simp [wrL]
  | q :: l, i => by simp only [List.cons_append, wrL, wrL_snoc p l (i + 1), List.length_cons, List.append_assoc]; congr 3; omega
theorem digs_one {x : Int} (h : 0 ≤ x) (h2 : x < 10) : digs x.toNat = [48 + x] := by
  rw [digs, if_pos (by omega)]
  congr 1
  omega
theorem feed_num {x c : Int} {bs ss : List Int} (hK : K ≠ 1) (h0 : 0 ≤ x) (h1 : x ≤ M) (h : blankB c = true) (f : Feed K M bs ss) : Feed K M (digs x.toNat ++ c :: bs) (x :: ss) := by
  have := Feed.num (K := K) (M := M) (n := x.toNat) hK (by omega) h f
  rwa [show ((x.toNat : Nat) : Int) = x by omega] at this
theorem feed_px (h1 : 1 ≤ K) (h3 : K ≤ 3) (hM : K = 1 → M = 1) {p : Int} (hc : Can (chK K) M p) (i : Nat) {bs ss : List Int} (f : Feed K M bs ss) : Feed K M (pxB K W i p ++ bs) (unpackS p ++ ss) := by
  obtain ⟨hl, _, hs⟩ := hc
  unfold pxB
  have hK : K = 1 ∨ K = 2 ∨ K = 3 := by omega
  rcases hK with rfl | hK
  · have e1 : chK 1 = 1 := rfl
    rw [e1] at hl
    match hu : unpackS p, hl with
    | [x], _ =>
      have hx := hs x (by rw [hu]; simp)
      rw [hM rfl] at hx
      rw [joinB, digs_one (by omega) (by omega)]
      have f2 : Feed 1 M ((if nlB 1 W i = true then [10] else []) ++ bs) ss := by
        split
        · exact .blank rfl f
        · exact f
      have := Feed.bit (K := 1) (M := M) (x := x) rfl (by omega) f2
      simpa using this
    | [], hl => simp at hl
    | _ :: _ :: _, hl => simp at hl; omega
  · have hn : nlB K W i = true := decide_eq_true (.inl (by omega))
    rw [hn, if_pos rfl]
    rcases hK with rfl | rfl
    · have e1 : chK 2 = 1 := rfl
      rw [e1] at hl
      match hu : unpackS p, hl with
      | [x], _ =>
        have hx := hs x (by rw [hu]; simp)
        have := feed_num (K := 2) (M := M) (x := x) (c := 10) (by decide) hx.1 hx.2 rfl f
        simpa [joinB] using this
      | [], hl => simp at hl
      | _ :: _ :: _, hl => simp at hl; omega
    · have e1 : chK 3 = 3 := rfl
      rw [e1] at hl
      match hu : unpackS p, hl with
      | [x, y, z], _ =>
        have hx := hs x (by rw [hu]; simp)
        have hy := hs y (by rw [hu]; simp)
        have hz := hs z (by rw [hu]; simp)
        have f1 := feed_num (K := 3) (M := M) (x := z) (c := 10) (by decide) hz.1 hz.2 rfl f
        have f2 := feed_num (K := 3) (M := M) (x := y) (c := 32) (by decide) hy.1 hy.2 rfl f1
        have f3 := feed_num (K := 3) (M := M) (x := x) (c := 32) (by decide) hx.1 hx.2 rfl f2
        simpa [joinB] using f3
      | [], hl => simp at hl
      | [_], hl => simp at hl
      | [_, _], hl => simp at hl
      | _ :: _ :: _ :: _ :: _, hl => simp at hl; omega
theorem feed_wr (h1 : 1 ≤ K) (h3 : K ≤ 3) (hM : K = 1 → M = 1) : ∀ (l : List Int) (i : Nat), (∀ p ∈ l, Can (chK K) M p) → Feed K M (wrL K W i l) (l.flatMap unpackS)
  | [], _, _ => .nil
  | p :: l, i, h => by
    rw [wrL, List.flatMap_cons]
    exact feed_px h1 h3 hM (h p (by simp)) i (feed_wr h1 h3 hM l (i + 1) fun q hq => h q (by simp [hq]))
/-- A whole raster is read as it is. -/
theorem read_all (hP : PlainH K W H M) {bs l : List Int} (f : Feed K M bs (l.flatMap unpackS)) (hc : ∀ p ∈ l, Can (chK K) M p) (hl : (l.length : Int) = H * W) : ∃ j, readS K W H M bs = (l, j, 0) := by
  have hP2 := hP.1
  unfold MayH at hP2
  obtain ⟨s', hs⟩ := (rows_fold (K := K) (W := W) (H := H) (M := M) (by omega) l [] 0 hc (by simp; omega) (by omega)).1 (by simpa using hl)
  obtain ⟨j, hj⟩ := feed_over (H := H) (by omega) f s0R s' _ ⟨rfl, rfl, by simp [s0R]; omega⟩ hs 0 []
  exact ⟨j, by rw [readS, if_pos hP, hj]; rfl⟩
/-- Blanks behind blanks, and behind bits. -/
theorem feed_ins {c : Int} (hc : blankB c = true) {bs ss : List Int} (f : Feed K M bs ss) : Feed K M (bs.flatMap fun b => if blankB b = true ∨ K = 1 then [b, c, c] else [b]) ss := by
  have dg : ∀ n : Nat, K ≠ 1 → (digs n).flatMap (fun b => if blankB b = true ∨ K = 1 then [b, c, c] else [b]) = digs n := by
    intro n hK
    induction n using Nat.strongRecOn with
    | _ n ih =>
      have nb : ∀ d : Nat, d < 10 → blankB (48 + (d : Int)) = false := fun d hd => decide_eq_false (by omega)
      rw [digs]
      by_cases h : n < 10
      · rw [if_pos h]
        simp [nb n h, hK]
      · rw [if_neg h, List.flatMap_append, ih (n / 10) (by omega)]
        have := nb (n % 10) (by omega)
        rw [List.flatMap_cons, this]
        simp [hK]
  induction f with
  | nil => exact .nil
  | blank hb f ih =>
    rw [List.flatMap_cons, if_pos (.inl hb)]
    exact .blank hb (.blank hc (.blank hc ih))
  | bit hK hx f ih =>
    rw [List.flatMap_cons, if_pos (.inr hK)]
    exact .bit hK hx (.blank hc (.blank hc ih))
  | num hK hM hb f ih =>
    rw [List.flatMap_append, List.flatMap_cons, dg _ hK, if_pos (.inl hb)]
    exact .num hK hM hb (.blank hc (.blank hc ih))
end

end Go.Proofs.Ytpoahaadnbdgcaa
