/- Walks and plain laws, a part of the proof of PnmJoins: every input that the law's guards let in, no condition beside. -/
import Derived.Test.YtggamdlpiejbiaaGreatM12
namespace Go.Proofs.YtggamdlpiejbiaaGreat
open Go.RowKit Go.Shelf


theorem Zy (xs ys : List Int) : Xr xs ++ Xr ys = Xr (xs ++ ys) := by simp [Xr]
instance : BldF Tryz.prog 207 205 260 2 := ⟨Tryz.underlying205, Tryz.underlying260, by kernel_rfl, by kernel_rfl⟩
instance : NoEsc Tryz.prog 198 := noesc_of Tryz.func198 (by kernel_rfl) (by kernel_rfl) (by kernel_rfl) (by kernel_rfl)

theorem copyCheck_a (g : Nat) (v1 : Value) : Fn Tryz.prog 179 #[.pointer (some ⟨g, 0, none⟩)] [QA g [.pointer none, v1] 207] (fun _ l => l = [QA g [.pointer (some ⟨g, 0, none⟩), v1] 207]) := by
 refine Qk (vs := [.pointer (some ⟨g, 0, none⟩)]) Tryz.func179 rfl Tryz.ntmps179 rfl ?_
 refine Qb (Qa (Qc rfl rfl (Qq rfl rfl (Qj (o2 := 0) rfl rfl rfl (Qo rfl rfl (by rfl) ?_)))))
 refine s_peq rfl Tryz.underlying205 rfl rfl (WpL.nil (Wp.condBT rfl (by rfl) ?_))
 refine Qa (Qc rfl rfl (Qc rfl rfl (s_tou rfl rfl (s_noesc rfl rfl (s_fromu rfl rfl (Qq rfl rfl (Qj (o2 := 0) rfl rfl rfl (Q3 rfl rfl rfl (WpL.nil ?_)))))))))
 apply YK
 ·exact (XZ rfl)
 ·exact rfl
 ·exact Ent.refl _

theorem copyCheck_b (g : Nat) (v1 : Value) : Fn Tryz.prog 179 #[.pointer (some ⟨g, 0, none⟩)] [QA g [.pointer (some ⟨g, 0, none⟩), v1] 207] (fun _ l => l = [QA g [.pointer (some ⟨g, 0, none⟩), v1] 207]) := by
 refine Qk (vs := [.pointer (some ⟨g, 0, none⟩)]) Tryz.func179 rfl Tryz.ntmps179 rfl ?_
 refine Qb (Qa (Qc rfl rfl (Qq rfl rfl (Qj (o2 := 0) rfl rfl rfl (Qo rfl rfl (by rfl) ?_)))))
 refine s_peq rfl Tryz.underlying205 rfl rfl (WpL.nil (Wp.condBF rfl (by rfl) ?_))
 refine Qb (Qa (Qc rfl rfl (Qq rfl rfl (Qj (o2 := 0) rfl rfl rfl (Qo rfl rfl (by rfl) ?_)))))
 refine Qc rfl rfl (s_pself rfl Tryz.underlying205 (by kernel_rfl) rfl rfl ?_)
 refine WpL.nil (QZ rfl (Wp.skip ?_))
 apply YK
 ·exact (XZ rfl)
 ·exact rfl
 ·exact Ent.refl _

theorem copyCheck_spec (g : Nat) (p : Option Addr) (v1 : Value) (hp : p = none ∨ p = some ⟨g, 0, none⟩) : Fn Tryz.prog 179 #[.pointer (some ⟨g, 0, none⟩)] [QA g [.pointer p, v1] 207] (fun _ l => l = [QA g [.pointer (some ⟨g, 0, none⟩), v1] 207]) := by
  rcases hp with rfl | rfl
  · exact copyCheck_a g v1
  · exact copyCheck_b g v1
theorem Fn.ownSome {P : Program} {f : Nat} {args : Array Value} {pre F : List HP} {R : Value → List HP → Prop} {T s c m : Nat} {a : Option Addr} {xs : List Value} (ht : Take1 pre (QG T s a c m xs) F) (hne : xs ≠ [])
    (h : ∀ g, a = some ⟨g, 0, none⟩ → m ≤ c → Fn P f args pre R) : Fn P f args pre R := by
  intro w U hs
  obtain ⟨S, hp, _⟩ := ht.ent w U hs
  rcases XM hp with ⟨_, _, _, e⟩ | ⟨g, cur, e, _, hmc, _⟩
  · exact absurd e hne
  · exact h g e hmc w U hs

theorem ZJ (g : Nat) (p a : Option Addr) (c : Nat) (xs : List Int) (hp : p = none ∨ p = some ⟨g, 0, none⟩) (s : ByteArray) (hs : xs.length + s.size ≤ 140737488355328) : Fn Tryz.prog 138 #[.pointer (some ⟨g, 0, none⟩), .string s] [QA g [.pointer p, .slice a (xs).length c] 207, QG 5 1 a c (xs).length (Xr (xs))] (fun _ l => ∃ a' c', l = [QA g [.pointer (some ⟨g, 0, none⟩), .slice a' (xs ++ Xh s).length c'] 207, QG 5 1 a' c' (xs ++ Xh s).length (Xr (xs ++ Xh s))]) := by
 refine Qk (vs := [.pointer (some ⟨g, 0, none⟩), .string s]) Tryz.func138 rfl Tryz.ntmps138 rfl ?_
 refine Qb (Qa (Qe rfl rfl (Qe rfl rfl (WpL.nil (Qb (Qa (Qc rfl rfl (Qh rfl rfl (by repeat' constructor) (copyCheck_spec _ _ _ hp) ?_))))))))
 rintro _ _ rfl
 simp only [Qr]
 refine WpL.nil (Qb (Qa (Qc rfl rfl (Qc rfl rfl (Qq rfl rfl (Qj (o2 := 1) rfl rfl rfl (Qo rfl rfl (by rfl) ?_)))))))
 refine Qc rfl rfl (s_apps rfl Tryz.underlying9 rfl rfl (by repeat' constructor) (by omega) ?_)
 intro a14 c14
 rw [Zy, show xs.length + s.size = (xs ++ Xh s).length from by rw [List.length_append, XS]]
 refine Qq rfl rfl (Qj (o2 := 1) rfl rfl rfl (Q3 rfl rfl rfl (WpL.nil (Qb (Qa (Qc rfl rfl (s_lens rfl Tryz.underlying9 rfl (Qe rfl rfl (Qe rfl rfl (WpL.nil (Qi ?_)))))))))))
 apply RetQ.mk
 ·exact (QB rfl rfl rfl)
 ·exact ⟨a14, c14, rfl⟩
 ·exact Take.ent' (by repeat' constructor)

theorem BWriteByte_spec (g : Nat) (p a : Option Addr) (c : Nat) (xs : List Int) (hp : p = none ∨ p = some ⟨g, 0, none⟩) (b : Int) (hs : xs.length + 1 ≤ 140737488355328) : Fn Tryz.prog 140 #[.pointer (some ⟨g, 0, none⟩), .int .u8 b] [QA g [.pointer p, .slice a (xs).length c] 207, QG 5 1 a c (xs).length (Xr (xs))] (fun _ l => ∃ a' c', l = [QA g [.pointer (some ⟨g, 0, none⟩), .slice a' (xs ++ [b]).length c'] 207, QG 5 1 a' c' (xs ++ [b]).length (Xr (xs ++ [b]))]) := by
 refine Qk (vs := [.pointer (some ⟨g, 0, none⟩), .int .u8 b]) Tryz.func140 rfl Tryz.ntmps140 rfl ?_
 refine Qb (Qa (Qe rfl rfl (WpL.nil (Qb (Qa (Qc rfl rfl (Qh rfl rfl (by repeat' constructor) (copyCheck_spec _ _ _ hp) ?_)))))))
 rintro _ _ rfl
 simp only [Qr]
 refine WpL.nil (Qb (Qa (Qc rfl rfl (Qc rfl rfl (Qq rfl rfl (Qj (o2 := 1) rfl rfl rfl (Qo rfl rfl (by rfl) ?_)))))))
 refine Qc rfl rfl ?_
 refine Yb rfl rfl rfl rfl ?_
 intro g1
 refine XA rfl rfl rfl (by repeat' constructor) (by rfl) (by rfl) (by rfl) (by rfl) (by omega) (by omega) ?_
 intro a14 c14
 rw [YJ, show xs.length + 1 = (xs ++ [b]).length from by simp]
 refine Qq rfl rfl (Qj (o2 := 1) rfl rfl rfl (Q3 rfl rfl rfl (WpL.nil (Qb (Qa (Qe rfl rfl (WpL.nil (Qi ?_))))))))
 apply RetQ.mk
 ·exact (Res.one rfl rfl)
 ·exact ⟨a14, c14, rfl⟩
 ·exact Take.ent' (by repeat' constructor)

theorem BString_a (g g' c : Nat) (p : Option Addr) (xs : List Int) (h0 : 0 < xs.length) (hc : xs.length ≤ c) (h1 : xs.length ≤ 140737488355328) (hb : ∀ x ∈ xs, 0 ≤ x ∧ x ≤ 255) : Fn Tryz.prog 141 #[.pointer (some ⟨g, 0, none⟩)] [QA g [.pointer p, .slice (some ⟨g', 0, none⟩) (xs).length c] 207, QG 5 1 (some ⟨g', 0, none⟩) c (xs).length (Xr (xs))] (fun v l => v = .string (strOfNums xs) ∧ l = []) := by
 refine Qk (vs := [.pointer (some ⟨g, 0, none⟩)]) Tryz.func141 rfl Tryz.ntmps141 rfl ?_
 refine Qb (Qa (Qe rfl rfl (WpL.nil (Qb ?_))))
 apply Xs (fB := []) mixed [(10, false)] (by kernel_rfl)
 apply Xk [⟨0, 3, _, [], false⟩, ⟨1, 4, _, [0], false⟩, ⟨2, 5, _, [1], false⟩, ⟨3, 6, _, [2], false⟩, ⟨4, 7, _, [3], false⟩, ⟨5, 8, _, [], false⟩, ⟨6, 9, _, [5], false⟩, ⟨7, 10, _, [6], false⟩, ⟨8, 11, _, [7], false⟩, ⟨9, 12, _, [8], false⟩] [] [0, 1, 2, 3, 4, 5, 6, 7, 8, 9] [2] (.inr rfl) rfl rfl rfl (by kernel_rfl) rfl rfl rfl
 ·refine AllF.cons rfl rfl rfl rfl ?_ ?_
  ·exact Qc rfl rfl (Qm rfl)
  refine AllF.cons rfl rfl rfl rfl ?_ ?_
  ·exact Qq rfl rfl (Qm rfl)
  refine AllF.cons rfl rfl rfl rfl ?_ ?_
  ·exact Qj (o2 := 1) rfl rfl rfl (Qm rfl)
  refine AllF.cons rfl rfl rfl rfl ?_ ?_
  ·refine Qo rfl rfl (by rfl) ?_
   exact Qm rfl
  refine AllF.cons rfl rfl rfl rfl ?_ ?_
  ·refine s_usd rfl rfl (by omega) ?_
   exact WpL.nil ⟨rfl, rfl, rfl, by exact Ent.refl _⟩
  refine AllF.cons rfl rfl rfl rfl ?_ ?_
  ·exact Qc rfl rfl (Qm rfl)
  refine AllF.cons rfl rfl rfl rfl ?_ ?_
  ·exact Qq rfl rfl (Qm rfl)
  refine AllF.cons rfl rfl rfl rfl ?_ ?_
  ·exact Qj (o2 := 1) rfl rfl rfl (Qm rfl)
  refine AllF.cons rfl rfl rfl rfl ?_ ?_
  ·refine Qo rfl rfl (by rfl) ?_
   exact Qm rfl
  refine AllF.cons rfl rfl rfl rfl ?_ ?_
  ·exact QC rfl rfl (WpL.nil ⟨rfl, rfl, rfl, by exact Ent.refl _⟩)
  exact AllF.nil
 ·refine s_uss rfl Tryz.underlying245 (by kernel_rfl) rfl rfl (by repeat' constructor) rfl h0 h1 hb ?_
  refine WpL.nil ⟨rfl, rfl, ?_⟩
  apply GoR.nil [⟨11, 2, _, [0, 1, 2, 3, 4, 5, 6, 7, 8, 9, 10], false⟩] (.inr rfl) rfl rfl
  ·refine AllF.cons rfl rfl rfl rfl ?_ ?_
   ·exact Qe rfl rfl (Qm rfl)
   exact AllF.nil
  ·refine Qi ?_
   apply RetQ.mk
   ·exact (Res.one rfl rfl)
   ·exact ⟨rfl, rfl⟩
   ·exact Ent.nil _

theorem BString_spec (g c : Nat) (p a : Option Addr) (xs : List Int) (h0 : 0 < xs.length) (h1 : xs.length ≤ 140737488355328) (hb : ∀ x ∈ xs, 0 ≤ x ∧ x ≤ 255) : Fn Tryz.prog 141 #[.pointer (some ⟨g, 0, none⟩)] [QA g [.pointer p, .slice a xs.length c] 207, QG 5 1 a c xs.length (Xr xs)] (fun v l => v = .string (strOfNums xs) ∧ l = []) := by
  refine Fn.ownSome (Take1.there Take1.here) (fun e => by rw [← List.length_eq_zero_iff, Xa] at e; omega) fun g' e hmc => ?_
  subst e
  exact BString_a g g' c p xs h0 hmc h1 hb

end Go.Proofs.YtggamdlpiejbiaaGreat
namespace Go.Proofs.YtggamdlpiejbiaaGreat
open Go.RowKit Go.Shelf


def strs (xs : List ByteArray) : List Value := xs.map Value.string
theorem strs_len (xs : List ByteArray) : (strs xs).length = xs.length := List.length_map _
theorem strs_at (xs : List ByteArray) {k : Nat} (h : k < xs.length) : (strs xs)[k]? = some (.string (xs[k]'h)) := by simp [strs, List.getElem?_map, List.getElem?_eq_getElem h]
theorem strs_snoc (xs : List ByteArray) (x : ByteArray) : strs xs ++ [.string x] = strs (xs ++ [x]) := by simp [strs]
theorem inter_map {α β : Type} (f : α → β) (sep : List α) (xs : List (List α)) : (sep.intercalate xs).map f = (sep.map f).intercalate (xs.map (·.map f)) := by
  simp only [List.intercalate]
  induction xs with
  | nil => rfl
  | cons x xs ih =>
    cases xs with
    | nil => simp
    | cons y ys => simp only [List.map_cons, List.intersperse_cons_cons, List.flatten_cons, List.map_append] at ih ⊢; rw [ih]
theorem Join_spec (a : Option Addr) (c : Nat) (xs : List ByteArray) (sep : ByteArray) (h0 : 0 < xs.length) (h1 : xs.length ≤ 140737488355328) (h2 : ((Xh sep).intercalate (xs.map Xh)).length ≤ 140737488355328) :
    Fn Tryz.prog 142 #[.slice a xs.length c, .string sep] [QG 9 1 a c xs.length (strs xs)] (fun v l => ∃ s, v = .string s ∧ Xh s = (Xh sep).intercalate (xs.map Xh) ∧ l = [QG 9 1 a c xs.length (strs xs)]) := by
  have e1 : (Lib.join (xs.map (·.data.toList)) sep.data.toList).map (fun b => (b.toNat : Int)) = (Xh sep).intercalate (xs.map Xh) := by
    unfold Lib.join Xh
    rw [inter_map, List.map_map]
    rfl
  refine Fn.ownSome Take1.here (fun e => by rw [← List.length_eq_zero_iff, strs_len] at e; omega) fun g e hmc => ?_
  subst e
  intro w U hs
  have hs2 := hs
  obtain ⟨S, hp, _⟩ := hs2
  have hlt : g < w.heap.size := by
    rcases XM hp with ⟨e, _⟩ | ⟨g', cur, e, hg, _⟩
    · cases e
    · injection e with e; injection e with e _ _; subst e; exact (Array.getElem?_eq_some_iff.1 hg).1
  have hj := Tryz.strings_Join g 0 c xs sep w (fun j x hx => by
    have hjl := (List.getElem?_eq_some_iff.1 hx).1
    have hxe := (List.getElem?_eq_some_iff.1 hx).2
    have := Y9 hp rfl j _ (strs_at xs hjl)
    rw [hxe] at this
    simpa [ZY] using this) hlt h1 hmc (by rw [← e1, List.length_map] at h2; exact h2)
  refine hj.mono ?_
  rintro e w' ⟨rfl, hb⟩
  exact ⟨_, _, rfl, ⟨_, rfl, by rw [← e1]; simp [Xh], rfl⟩, Out.chg hs hb⟩
theorem joinB_inter : ∀ (xs : List Int), X9 xs = [32].intercalate (xs.map fun x => XG x.toNat)
  | [] => rfl
  | [x] => by simp [X9, List.intercalate]
  | x :: y :: xs => by
    rw [X9, joinB_inter (y :: xs)]
    simp [List.intercalate]
theorem digs_len5 {x : Int} (h : x ≤ 65535) : 1 ≤ (XG x.toNat).length ∧ (XG x.toNat).length ≤ 5 := by
  rw [lowD_digs, List.length_reverse, List.length_map]
  obtain ⟨t, ht⟩ := lowD_head 10 x.toNat
  have := lowD_len20 (b := 10) (n := x.toNat) (by omega) 4 (by omega)
  rw [ht] at this ⊢
  simp only [List.length_cons] at this ⊢
  omega
theorem joinB_len : ∀ (xs : List Int), (∀ x ∈ xs, x ≤ 65535) → (X9 xs).length ≤ 6 * xs.length ∧ (xs ≠ [] → 1 ≤ (X9 xs).length)
  | [], _ => by simp [X9]
  | [x], h => by
    have := digs_len5 (h x (by simp))
    simp only [X9, List.length_cons, List.length_nil]; omega
  | x :: y :: xs, h => by
    have h1 := digs_len5 (h x (by simp))
    have h2 := joinB_len (y :: xs) fun z hz => h z (by simp [hz])
    simp only [X9, List.length_append, List.length_cons] at h2 ⊢; omega
theorem joinB_byte : ∀ (xs : List Int), ∀ b ∈ X9 xs, 0 ≤ b ∧ b ≤ 255
  | [], b, hb => by simp [X9] at hb
  | [x], b, hb => by have := digs_bd _ b hb; omega
  | x :: y :: xs, b, hb => by
    rw [X9] at hb
    rcases List.mem_append.1 hb with hb | hb
    · have := digs_bd _ b hb; omega
    · rcases List.mem_cons.1 hb with hb | hb
      · omega
      · exact joinB_byte (y :: xs) b hb
theorem Vl {K W : Int} : ∀ (l : List Int) (i : Nat), (wrL K W i l).length ≤ 20 * l.length
  | [], i => by simp [wrL]
  | p :: l, i => by
    have h1 := Vl (K := K) (W := W) l (i + 1)
    have h2 := (joinB_len (Qn p) fun x hx => (Yx p x hx).2).1
    have h3 := XD p
    simp only [wrL, pxB, List.length_append, List.length_cons]
    split <;> simp <;> omega
theorem wrL_byte {K W : Int} : ∀ (l : List Int) (i : Nat), ∀ b ∈ wrL K W i l, 0 ≤ b ∧ b ≤ 255
  | [], i, b, hb => by simp [wrL] at hb
  | p :: l, i, b, hb => by
    rw [wrL, pxB] at hb
    rcases List.mem_append.1 hb with hb | hb
    · rcases List.mem_append.1 hb with hb | hb
      · exact joinB_byte _ b hb
      · split at hb
        · simp at hb; omega
        · simp at hb
    · exact wrL_byte l (i + 1) b hb
theorem wrL_pos {K W : Int} {l : List Int} (h : l ≠ []) (hu : ∀ p ∈ l, Qn p ≠ []) (i : Nat) : 0 < (wrL K W i l).length := by
  cases l with
  | nil => exact absurd rfl h
  | cons p l =>
    have := (joinB_len (Qn p) fun x hx => (Yx p x hx).2).2 (hu p (by simp))
    simp only [wrL, pxB, List.length_append]; omega
theorem ZE (n : Nat) : Xh (strOfNums (XG n)) = XG n := Y8 fun x hx => by have := digs_bd n x hx; omega
structure WbX where
  (k : Nat) (bs : List Int) (p a : Option Addr) (c : Nat)
theorem mod_row {q r W : Int} (h0 : 0 ≤ r) (h1 : r < W) : (q * W + r) % W = r := by
  rw [Int.add_comm, Int.add_mul_emod_self_right]
  exact Int.emod_eq_of_lt h0 h1

theorem Odd_spec (g : Nat) (p ch mx : Int) (h0 : 0 ≤ p) (h1 : p < 18446744073709551616) : Fn Tryz.prog 137 #[.int .u64 p, .pointer (some ⟨g, 0, none⟩)] [QA g [.int .i64 ch, .int .i64 mx] 48] (fun v l => v = .bool (!decide (Yp p ch mx)) ∧ l = [QA g [.int .i64 ch, .int .i64 mx] 48]) := by
 refine Qk (vs := [.int .u64 p, .pointer (some ⟨g, 0, none⟩)]) Tryz.func137 rfl Tryz.ntmps137 rfl ?_
 refine Qb (Qa (Qe rfl rfl (WpL.nil (Qb (Qa (Qc rfl rfl ?_))))))
 refine QI (vs := [_, _]) rfl rfl rfl (by rfl) ?_
 refine Qh rfl rfl (by repeat' constructor) (Fits_spec _ _ _ h0 h1) ?_
 rintro _ _ ⟨rfl, rfl⟩
 simp only [Qr]
 refine Zq rfl rfl (Qe rfl rfl (WpL.nil (Qi ?_)))
 apply RetQ.mk
 ·exact (Res.one rfl rfl)
 ·exact ⟨rfl, rfl⟩
 ·exact Ent.refl _

theorem IndexOdd_spec (A0 : HP) (a0 : Option Addr) (c0 : Nat) (px : List Int) (hA : RdsL [A0] a0 (Xp px)) (hr : ∀ p ∈ px, 0 ≤ p ∧ p < 18446744073709551616) (hl : px.length ≤ 140737488355328) (g : Nat) (ch mx : Int) : Fn Tryz.prog 173 #[.slice a0 px.length c0, .func (.func 137) #[] #[.pointer (some ⟨g, 0, none⟩)]] [QA g [.int .i64 ch, .int .i64 mx] 48, A0] (fun v l => ∃ r : Int, v = .int .i64 r ∧ (0 ≤ r ↔ ¬ ∀ p ∈ px, Yp p ch mx) ∧ l = [QA g [.int .i64 ch, .int .i64 mx] 48, A0]) := by
 refine Qk (vs := [.slice a0 px.length c0, .func (.func 137) #[] #[.pointer (some ⟨g, 0, none⟩)]]) Tryz.func173 rfl Tryz.ntmps173 rfl ?_
 refine Qb (Qa (Qe rfl rfl (WpL.nil (Qb (Qb (Qa (Qc rfl rfl (QC rfl rfl (Qc rfl rfl (WpL.nil (Wp.block ?_)))))))))))
 refine Wp.loopD (σ := Nat) (fun k => k ≤ px.length ∧ ∀ p ∈ px.take k, Yp p ch mx) [4, 5, 8, 9, 10, 11, 12, 13, 14, 15, 16, 17, 18] (fun k => [(8, .int .i64 (k : Int))]) (fun k => [QA g [.int .i64 ch, .int .i64 mx] 48, A0]) (fun k => px.length - k) 0 ?_ (by repeat (first | exact FrLe.nil | refine FrLe.cons rfl ?_)) ?_ ?_
 ·exact ⟨Nat.zero_le _, by simp⟩
 ·exact Ent.refl _
 ·rintro k ⟨hk, hf⟩
  refine Qb (Qa (Q7 rfl rfl rfl (WpL.nil (Qb (Ql rfl (fun h1 => ?_) (fun h1 => ?_))))))
  ·have hlt : k < px.length := by omega
   have hpb := hr _ (List.getElem_mem hlt)
   refine Wp.skip (Qb (Wp.block ?_))
   refine Qb (Qa (Qc rfl rfl (Qe rfl rfl (WpL.nil (Qb (Qa (Qc rfl rfl (Qc rfl rfl (Qc rfl rfl (Q4 k rfl rfl rfl hA (by exact Take.ent' (by repeat' constructor)) rfl (by omega) (by rw [X1]; omega) ?_))))))))))
   refine Q5 rfl rfl hA (by exact Take.ent' (by repeat' constructor)) (YP px hlt) ?_
   refine X3 (u := []) (c := [.pointer (some ⟨g, 0, none⟩)]) rfl rfl rfl rfl (by repeat' constructor) (Odd_spec g _ ch mx hpb.1 hpb.2) ?_
   rintro _ _ ⟨rfl, rfl⟩
   simp only [Qr]
   refine WpL.nil (X5 rfl (fun h2 => ?_) (fun h2 => ?_))
   ·refine Qb (Qa (Qc rfl rfl (Qe rfl rfl (WpL.nil (Qi ?_)))))
    apply RetQ.mk
    ·exact (Res.one rfl rfl)
    ·exact ⟨_, rfl, ⟨fun _ hall => (by have := hall _ (List.getElem_mem hlt); rw [decide_eq_true this] at h2; cases h2), fun _ => (by omega)⟩, rfl⟩
    ·exact Ent.refl _
   ·refine Wp.skip (Qa (QD rfl rfl rfl (Qu (by omega) (by omega)) ?_))
    refine Qc rfl rfl (WpL.nil (Qv (k + 1) ?_ ?_ (by ((repeat (first | exact Top.refl | refine Top.push rfl ?_)); done)) (by repeat (first | exact FrLe.nil | refine FrLe.cons rfl ?_)) ?_))
    ·refine ⟨by omega, fun p hp => ?_⟩
     rw [Xd px hlt] at hp
     rcases List.mem_append.1 hp with hp | hp
     ·exact hf p hp
     ·have := List.mem_singleton.1 hp; subst this; simpa using h2
    ·omega
    ·exact Ent.refl _
  ·refine QM (Qb (Qa (Qe rfl rfl (WpL.nil (Qi ?_)))))
   apply RetQ.mk
   ·exact (Res.one rfl rfl)
   ·have hke : k = px.length := by omega
    rw [hke, List.take_length] at hf
    exact ⟨_, rfl, ⟨fun h => by omega, fun h => absurd hf h⟩, rfl⟩
   ·exact Ent.refl _

theorem ContainsOdd_spec (A0 : HP) (a0 : Option Addr) (c0 : Nat) (px : List Int) (hA : RdsL [A0] a0 (Xp px)) (hr : ∀ p ∈ px, 0 ≤ p ∧ p < 18446744073709551616) (hl : px.length ≤ 140737488355328) (g : Nat) (ch mx : Int) : Fn Tryz.prog 130 #[.slice a0 px.length c0, .func (.func 137) #[] #[.pointer (some ⟨g, 0, none⟩)]] [QA g [.int .i64 ch, .int .i64 mx] 48, A0] (fun v l => v = .bool (decide (¬ ∀ p ∈ px, Yp p ch mx)) ∧ l = [QA g [.int .i64 ch, .int .i64 mx] 48, A0]) := by
 refine Qk (vs := [.slice a0 px.length c0, .func (.func 137) #[] #[.pointer (some ⟨g, 0, none⟩)]]) Tryz.func130 rfl Tryz.ntmps130 rfl ?_
 refine Qb (Qa (Qe rfl rfl (WpL.nil (Qb (Qa (Qc rfl rfl (Qc rfl rfl (Qh rfl rfl (by repeat' constructor) (IndexOdd_spec A0 a0 c0 px hA hr hl _ _ _) ?_))))))))
 rintro _ _ ⟨ri, rfl, hri, rfl⟩
 simp only [Qr]
 refine s_ge rfl rfl rfl (Qe rfl rfl (WpL.nil (Qi ?_)))
 apply RetQ.mk
 ·exact (Res.one rfl rfl)
 ·exact ⟨congrArg Value.bool (by rw [decide_eq_decide]; exact hri), rfl⟩
 ·exact Ent.refl _

end Go.Proofs.YtggamdlpiejbiaaGreat
namespace Go.Proofs.YtggamdlpiejbiaaGreat
open Go.RowKit Go.Shelf


structure WoX where
  (ws : List ByteArray) (a : Option Addr) (c : Nat)
def wsOf (p : Int) : List ByteArray := (Qn p).map fun x => strOfNums (XG x.toNat)
theorem wsOf_bytes (p : Int) : (wsOf p).map Xh = (Qn p).map fun x => XG x.toNat := by
  simp only [wsOf, List.map_map]
  exact List.map_congr_left fun x _ => ZE _
theorem joinB_one {xs : List Int} (h : xs.length = 1) (h0 : 0 < xs.length) : X9 xs = XG (xs[0]).toNat := by
  match xs, h with
  | [x], _ => rfl
theorem pxs_sub (px : List Int) (L H : Nat) : ((Xp px).drop (L * 1)).take ((H - L) * 1) = Xp ((px.drop L).take (H - L)) := by simp [Xp, List.map_take, List.map_drop]
theorem sub_at {px : List Int} {L n j : Nat} (hj : j < ((px.drop L).take n).length) (h : L + j < px.length) : ((px.drop L).take n)[j] = px[L + j] := by simp

set_option maxHeartbeats 4000000 in
theorem Write_ok (A0 : HP) (a0 : Option Addr) (c0 : Nat) (px : List Int) (hA : RdsL [A0] a0 (Xp px)) (hr : ∀ p ∈ px, 0 ≤ p ∧ p < 18446744073709551616) (_hl : px.length ≤ 300000000) (hc : px.length ≤ c0) (K M : Int) (Wn Hn : Nat) (hP : Zi K (Wn : Int) (Hn : Int) M) : Fn Tryz.prog 89 #[.slice a0 px.length c0, .agg #[.int .i64 K, .int .i64 (Wn : Int), .int .i64 (Hn : Int), .int .i64 M]] [A0] (fun v l => ∃ s e, v = .tuple #[.string s, .int .i64 e] ∧ ((WrP K (Wn : Int) (Hn : Int) M px ∧ e = 0 ∧ Xh s = wrL K (Wn : Int) 0 px ∧ s.size ≤ px.length * 20) ∨ (¬ WrP K (Wn : Int) (Hn : Int) M px ∧ e = 1 ∧ s = ⟨#[]⟩)) ∧ l = [A0]) := by
 have hP2 := hP.1
 unfold Xv at hP2
 have hK4 := hP.2
 have hWH : Wn * Hn ≤ 4096 * 65536 := Nat.mul_le_mul (by omega) (by omega)
 have hch := chK_or K
 have hWHi : (Wn : Int) * (Hn : Int) = ((Wn * Hn : Nat) : Int) := by push_cast; rfl
 refine Qk (vs := [.slice a0 px.length c0, .agg #[.int .i64 K, .int .i64 (Wn : Int), .int .i64 (Hn : Int), .int .i64 M]]) Tryz.func89 rfl Tryz.ntmps89 rfl (Qb (Qa (Q9 rfl rfl rfl ?_)))
 intro g1
 refine Qe rfl rfl (Qe rfl rfl (WpL.nil (Qb (Qa ?_))))
 refine QI (vs := [_, _, _, _]) rfl rfl rfl (by rfl) ?_
 refine Qh rfl rfl (by repeat' constructor) (XJ _ _ _ _ (by omega)) ?_
 rintro _ _ ⟨rfl, rfl⟩
 simp only [Qr]
 rw [show (if K % 3 = 0 then (3 : Int) else 1) = QW K from rfl]
 refine YE rfl ?_
 intro gF
 refine XL rfl rfl rfl (by rfl) rfl ?_
 refine WpL.nil (Qb (Qa (s_mkf rfl (fun a hh => X6 hh _ _ rfl) ?_)))
 refine Qe rfl rfl (WpL.nil (Qb (Qb (Qa ?_))))
 refine QI (vs := [_, _, _, _]) rfl rfl rfl (by rfl) ?_
 refine Qh rfl rfl (by repeat' constructor) (New_spec _ _ _ _) ?_
 intro v0 m0 hN0
 rcases hN0 with ⟨hP', gR, rfl, rfl⟩ | ⟨hP', rfl, rfl⟩
 ·simp only [Qr]
  refine Qc rfl rfl (QH rfl rfl rfl (QH rfl rfl rfl (Qe rfl rfl (Qe rfl rfl (WpL.nil (Qb (Qa (Qc rfl rfl (Xn rfl rfl rfl (Qc rfl rfl (Qy (dj := 30) rfl (by decide) ?_)))))))))))
  refine Qf rfl rfl (Qc rfl rfl (Qf rfl rfl (QC rfl rfl (Qf rfl rfl (Qj (o2 := 1) rfl rfl rfl (Qf rfl rfl (Qo rfl rfl (by rfl) ?_)))))))
  refine Qf rfl rfl (Qj (o2 := 2) rfl rfl rfl (Qf rfl rfl (Qo rfl rfl (by rfl) ?_)))
  refine Qf rfl rfl (XK rfl rfl rfl (Qu (by omega) (by omega)) ?_)
  rw [hWHi]
  refine Qf rfl rfl (Xn rfl rfl rfl (Qs rfl rfl rfl (Qc rfl rfl (QK rfl rfl rfl (fun hg2 => ?_) (fun hg2 => ?_)))))
  ·have hg2 := of_decide_eq_false hg2
   refine Qc rfl rfl (Qf rfl rfl (Qc rfl rfl (Qf rfl rfl (Qh rfl rfl (by repeat' constructor) (ContainsOdd_spec A0 a0 c0 px hA hr (by omega) gF (QW K) M) ?_))))
   rintro _ _ ⟨rfl, rfl⟩
   simp only [Qr]
   refine Qs rfl rfl rfl (WpL.nil (Ql rfl (fun hc2 => ?_) (fun hc2 => ?_)))
   ·refine Qb (Qa (Qe rfl rfl (Qe rfl rfl (WpL.nil (Qi ?_)))))
    apply RetQ.mk
    ·exact (QB rfl rfl rfl)
    ·exact ⟨_, _, rfl, .inr ⟨fun h => hc2 h.2.2, rfl, rfl⟩, rfl⟩
    ·exact Take.ent' (by repeat' constructor)
   ·have hfit : ∀ p ∈ px, Yp p (QW K) M := Classical.not_not.1 hc2
    have hpl : px.length = Wn * Hn := by omega
    have hWP : WrP K (Wn : Int) (Hn : Int) M px := ⟨hP, by rw [hpl]; push_cast; rfl, hfit⟩
    have hun : ∀ p ∈ px, Qn p ≠ [] := fun p hp e => by have h1 := (hfit p hp).2.1; rw [e] at h1; simp at h1; omega
    have hne : px ≠ [] := fun e => by have h1 := Nat.mul_pos (show 0 < Wn by omega) (show 0 < Hn by omega); rw [e] at hpl; simp at hpl; omega
    refine Wp.skip (Qb (Qa (YE rfl ?_)))
    intro gB
    refine WpL.nil (Qb (Qb (Qa (Qj (o2 := 0) rfl rfl rfl (Qo rfl rfl (by rfl) ?_)))))
    refine QN rfl rfl rfl (WpL.nil (Ql rfl (fun h1 => ?_) (fun h1 => ?_)))
    ·have hK1 : K = 1 := by omega
     have hch1 : QW K = 1 := by rw [hK1]; rfl
     refine Qb (Qb (Qa (Qj (o2 := 2) rfl rfl rfl (Qo rfl rfl (by rfl) ?_))))
     refine Qc rfl rfl (WpL.nil (Wp.block ?_))
     refine Wp.loopD (σ := WbX) (fun x => x.k ≤ Hn ∧ x.bs = wrL K (Wn : Int) 0 (px.take (x.k * Wn)) ∧ (x.p = none ∨ x.p = some ⟨gB, 0, none⟩)) [11, 12, 13, 14, 50, 51, 52, 53, 54, 55, 56, 57, 58, 59, 60, 61, 62, 63, 64, 65, 66, 67, 68, 69, 70, 71, 72, 73, 74, 75, 76, 77, 78, 79, 80, 81, 82, 83, 84, 85, 86, 87, 88, 89, 90, 91, 92, 93, 94] (fun x => [(50, .int .i64 (x.k : Int))]) (fun x => [QA gB [.pointer x.p, .slice x.a x.bs.length x.c] 207, QG 5 1 x.a x.c x.bs.length (Xr x.bs), QA gF [.int .i64 (QW K), .int .i64 M] 48, QA g1 [.int .i64 K, .int .i64 (Wn : Int), .int .i64 (Hn : Int), .int .i64 M] 98, A0]) (fun x => Hn - x.k) ⟨0, [], none, none, 0⟩ ?_ (by repeat (first | exact FrLe.nil | refine FrLe.cons rfl ?_)) ?_ ?_
     ·exact ⟨Nat.zero_le _, by simp only; rw [Nat.zero_mul, List.take_zero]; rfl, .inl rfl⟩
     ·exact (Ent.own_nil (T := 5) (s := 1) (Ent.refl _)).trans (Take.ent' (by repeat' constructor))
     ·rintro ⟨k, bs, p, a, c⟩ ⟨hk, hbs, hp⟩
      dsimp only at hk hbs hp ⊢
      refine Qb (Qa (Q7 rfl rfl rfl (WpL.nil (Qb (Ql rfl (fun h3 => ?_) (fun h3 => ?_))))))
      ·have hlt : k < Hn := by omega
       have hkW : (k + 1) * Wn = k * Wn + Wn := by rw [Nat.add_mul, Nat.one_mul]
       have hkW2 : (k + 1) * Wn ≤ Hn * Wn := Nat.mul_le_mul_right _ hlt
       rw [Nat.mul_comm Hn Wn] at hkW2
       have ei1 : (k : Int) * (Wn : Int) = ((k * Wn : Nat) : Int) := by push_cast; rfl
       have ei2 : ((k : Int) + 1) * (Wn : Int) = (((k + 1) * Wn : Nat) : Int) := by push_cast; rfl
       refine Wp.skip (Qb (Wp.block ?_))
       refine Qb (Qa (Qc rfl rfl (Qe rfl rfl (WpL.nil (Qb (Qa (Qc rfl rfl (Qc rfl rfl (Qj (o2 := 1) rfl rfl rfl (Qo rfl rfl (by rfl) ?_))))))))))
       refine XK rfl rfl rfl (Qu (by omega) (by omega)) ?_
       rw [ei1]
       refine Qc rfl rfl (QD rfl rfl rfl (Qu (by omega) (by omega)) ?_)
       refine Qj (o2 := 1) rfl rfl rfl (Qo rfl rfl (by rfl) ?_)
       refine XK rfl rfl rfl (Qu (by omega) (by omega)) ?_
       rw [ei2]
       refine Qc rfl rfl (QD rfl rfl rfl (Qu (by omega) (by omega)) ?_)
       refine Qj (o2 := 1) rfl rfl rfl (Qo rfl rfl (by rfl) ?_)
       refine XK rfl rfl rfl (Qu (by omega) (by omega)) ?_
       rw [ei2]
       refine s_sll_lhm (L := k * Wn) (H := (k + 1) * Wn) (M := (k + 1) * Wn) rfl rfl rfl rfl rfl rfl rfl rfl (by omega) (by omega) (by omega) ?_
       refine Qe rfl rfl (WpL.nil (Qb (Qa (Qc rfl rfl (QC rfl rfl (Qc rfl rfl (WpL.nil (Wp.block ?_))))))))
       have hRw := hA.sla (k * Wn) ((k + 1) * Wn) ((k + 1) * Wn) 1 (Nat.le_refl _)
       rw [pxs_sub] at hRw
       rw [show (k + 1) * Wn - k * Wn = Wn by omega] at hRw ⊢
       have hrl : ((px.drop (k * Wn)).take Wn).length = Wn := by rw [List.length_take, List.length_drop]; omega
       refine Wp.loopD (σ := WbX) (fun y => y.k ≤ Wn ∧ y.bs = wrL K (Wn : Int) 0 (px.take (k * Wn + y.k)) ∧ (y.p = none ∨ y.p = some ⟨gB, 0, none⟩)) [13, 14, 71, 72, 73, 74, 75, 76, 77, 78, 79, 80, 81, 82, 83, 84, 85, 86, 87, 88, 89, 90, 91, 92, 93] (fun y => [(71, .int .i64 (y.k : Int))]) (fun y => [QA gB [.pointer y.p, .slice y.a y.bs.length y.c] 207, QG 5 1 y.a y.c y.bs.length (Xr y.bs), QA gF [.int .i64 (QW K), .int .i64 M] 48, QA g1 [.int .i64 K, .int .i64 (Wn : Int), .int .i64 (Hn : Int), .int .i64 M] 98, A0]) (fun y => Wn - y.k) ⟨0, bs, p, a, c⟩ ?_ (by repeat (first | exact FrLe.nil | refine FrLe.cons rfl ?_)) ?_ ?_
       ·exact ⟨Nat.zero_le _, hbs, hp⟩
       ·exact Ent.refl _
       ·clear hbs hp
        rintro ⟨j, bs, p, a, c⟩ ⟨hj, hbs, hp⟩
        dsimp only at hj hbs hp ⊢
        refine Qb (Qa (Q7 rfl rfl rfl (WpL.nil (Qb (Ql rfl (fun h5 => ?_) (fun h5 => ?_))))))
        ·have hlt2 : k * Wn + j < px.length := by omega
         have hlr : j < ((px.drop (k * Wn)).take Wn).length := by omega
         have hpb := hr _ (List.getElem_mem hlt2)
         have hft := hfit _ (List.getElem_mem hlt2)
         have hul : (Qn (px[k * Wn + j]'hlt2)).length = 1 := by have := hft.2.1; rw [hch1] at this; omega
         have hu0 : 0 < (Qn (px[k * Wn + j]'hlt2)).length := by omega
         have hub := Yx (px[k * Wn + j]'hlt2) _ (List.getElem_mem hu0)
         have hdl := digs_len5 hub.2
         have hbl := Vl (K := K) (W := (Wn : Int)) (px.take (k * Wn + j)) 0
         rw [← hbs, List.length_take] at hbl
         have hmod : ((k * Wn + j : Nat) : Int) % (Wn : Int) = (j : Int) := by push_cast; exact mod_row (by omega) (by omega)
         have hjb : X9 (Qn (px[k * Wn + j]'hlt2)) = (XG ((Qn (px[k * Wn + j]'hlt2))[0]'hu0).toNat) := joinB_one hul hu0
         have hstep : ∀ b, b = (bs ++ X9 (Qn (px[k * Wn + j]'hlt2))) ++ (if nlB K (Wn : Int) (k * Wn + j) = true then [10] else []) → b = wrL K (Wn : Int) 0 (px.take (k * Wn + (j + 1))) := fun b hb => by rw [hb, ← Nat.add_assoc, wr_take hlt2, hbs, List.append_assoc]
         rw [hjb] at hstep
         refine Wp.skip (Qb (Wp.block ?_))
         refine Qb (Qa (Qc rfl rfl (Q4 j rfl rfl rfl hRw (by exact Take.ent' (by repeat' constructor)) rfl (by omega) (by rw [X1]; omega) ?_)))
         refine Q5 (v := (.int .u64 (px[k * Wn + j]'hlt2))) rfl rfl hRw (by exact Take.ent' (by repeat' constructor)) ((YP _ hlr).trans (by rw [sub_at hlr hlt2])) ?_
         refine Qe rfl rfl (Qe rfl rfl (WpL.nil (Qb (Qa (Qc rfl rfl (Qh rfl rfl (by repeat' constructor) (Yf _ hpb.1 hpb.2) ?_))))))
         rintro _ _ ⟨A1, a1, c1, rfl, rfl, hA1, hn1⟩
         simp only [Qr]
         refine Q4 0 rfl rfl rfl hA1 (by exact Take.ent' (by repeat' constructor)) rfl (by omega) (by rw [QT]; omega) ?_
         refine Q5 rfl rfl hA1 (by exact Take.ent' (by repeat' constructor)) (Xi _ hu0) ?_
         refine Qh rfl rfl (by repeat' constructor) (Zz _ hub.1 (by omega)) ?_
         rintro _ _ ⟨rfl, rfl⟩
         simp only [Qr]
         refine Qh rfl rfl (by repeat' constructor) (ZJ gB p a c bs hp _ (by rw [ZC]; omega)) ?_
         rintro _ _ ⟨ab, cb, rfl⟩
         simp only [Qr]
         rw [ZE]
         refine WpL.nil (Qb (Qa (Qc rfl rfl (YV rfl rfl rfl (by omega) (by omega) ?_))))
         refine QN rfl rfl rfl (Qc rfl rfl (QK rfl rfl rfl (fun hg3 => ?_) (fun hg3 => ?_)))
         ·have hg3 := of_decide_eq_false hg3
          refine Qc rfl rfl (Qf rfl rfl (Qj (o2 := 1) rfl rfl rfl (Qf rfl rfl (Qo rfl rfl (by rfl) ?_))))
          refine Qf rfl rfl (ZQ rfl rfl rfl (Qu (by omega) (by omega)) ?_)
          refine Qf rfl rfl (QN rfl rfl rfl (Qs rfl rfl rfl (WpL.nil (Ql rfl (fun h6 => ?_) (fun h6 => ?_)))))
          ·refine Qa (Qh rfl rfl (by repeat' constructor) (BWriteByte_spec gB _ ab cb _ (.inr rfl) 10 (by rw [List.length_append]; omega)) ?_)
           rintro _ _ ⟨ab2, cb2, rfl⟩
           simp only [Qr]
           refine WpL.nil (Qa (QD rfl rfl rfl (Qu (by omega) (by omega)) ?_))
           refine Qc rfl rfl (WpL.nil (Qv (⟨j + 1, bs ++ (XG ((Qn (px[k * Wn + j]'hlt2))[0]'hu0).toNat) ++ [10], some ⟨gB, 0, none⟩, ab2, cb2⟩ : WbX) ?_ ?_ (by ((repeat (first | exact Top.refl | refine Top.push rfl ?_)); done)) (by repeat (first | exact FrLe.nil | refine FrLe.cons rfl ?_)) ?_))
           ·exact ⟨by simp only; omega, hstep _ (nl_t (.inr (.inl (by rw [hmod]; omega))) rfl), .inr rfl⟩
           ·simp only; omega
           ·exact Take.ent' (by repeat' constructor)
          ·refine Wp.skip (Qa (QD rfl rfl rfl (Qu (by omega) (by omega)) ?_))
           refine Qc rfl rfl (WpL.nil (Qv (⟨j + 1, bs ++ (XG ((Qn (px[k * Wn + j]'hlt2))[0]'hu0).toNat), some ⟨gB, 0, none⟩, ab, cb⟩ : WbX) ?_ ?_ (by ((repeat (first | exact Top.refl | refine Top.push rfl ?_)); done)) (by repeat (first | exact FrLe.nil | refine FrLe.cons rfl ?_)) ?_))
           ·exact ⟨by simp only; omega, hstep _ (nl_f (by omega) (by rw [hmod]; omega) (by rw [hmod]; omega) rfl), .inr rfl⟩
           ·simp only; omega
           ·exact Take.ent' (by repeat' constructor)
         ·have hg3 := of_decide_eq_true hg3
          refine Qd rfl rfl rfl (by decide) (Qd rfl rfl rfl (by decide) (Qd rfl rfl rfl (by decide) (Qd rfl rfl rfl (by decide) (Qt rfl rfl rfl (WpL.nil (Xc rfl (Qa (Qh rfl rfl (by repeat' constructor) (BWriteByte_spec gB _ ab cb _ (.inr rfl) 10 (by rw [List.length_append]; omega)) ?_))))))))
          rintro _ _ ⟨ab2, cb2, rfl⟩
          simp only [Qr]
          refine WpL.nil (Qa (QD rfl rfl rfl (Qu (by omega) (by omega)) ?_))
          refine Qc rfl rfl (WpL.nil (Qv (⟨j + 1, bs ++ (XG ((Qn (px[k * Wn + j]'hlt2))[0]'hu0).toNat) ++ [10], some ⟨gB, 0, none⟩, ab2, cb2⟩ : WbX) ?_ ?_ (by ((repeat (first | exact Top.refl | refine Top.push rfl ?_)); done)) (by repeat (first | exact FrLe.nil | refine FrLe.cons rfl ?_)) ?_))
          ·exact ⟨by simp only; omega, hstep _ (nl_t (.inr (.inr (by rw [hmod]; omega))) rfl), .inr rfl⟩
          ·simp only; omega
          ·exact Take.ent' (by repeat' constructor)
        ·have hjw : j = Wn := by omega
         refine QM (Qa (QD rfl rfl rfl (Qu (by omega) (by omega)) ?_))
         refine Qc rfl rfl (WpL.nil (Qv (⟨k + 1, bs, p, a, c⟩ : WbX) ?_ ?_ (by ((repeat (first | exact Top.refl | refine Top.push rfl ?_)); done)) (by repeat (first | exact FrLe.nil | refine FrLe.cons rfl ?_)) ?_))
         ·exact ⟨by simp only; omega, by simp only; rw [hbs, hjw, Nat.add_mul, Nat.one_mul], hp⟩
         ·simp only; omega
         ·exact Ent.refl _
      ·have hke : k = Hn := by omega
       rw [hke, Nat.mul_comm Hn Wn, List.take_of_length_le (by omega)] at hbs
       have hbl := Vl (K := K) (W := (Wn : Int)) px 0
       have hbp := wrL_pos (K := K) (W := (Wn : Int)) hne hun 0
       have hbb := wrL_byte (K := K) (W := (Wn : Int)) px 0
       subst hbs
       refine QM (Qb (Qa (Qh rfl rfl (by repeat' constructor) (BString_spec gB c p a _ hbp (by omega) hbb) ?_)))
       rintro _ _ ⟨rfl, rfl⟩
       simp only [Qr]
       refine Qe rfl rfl (Qe rfl rfl (WpL.nil (Qi ?_)))
       apply RetQ.mk
       ·exact (QB rfl rfl rfl)
       ·exact ⟨_, _, rfl, .inl ⟨hWP, rfl, Y8 hbb, by rw [ZC]; omega⟩, rfl⟩
       ·exact Take.ent' (by repeat' constructor)
    ·refine Wp.skip (Qb (Qb (Qa (Qc rfl rfl (QC rfl rfl (Qc rfl rfl (WpL.nil (Wp.block ?_))))))))
     refine Wp.loopD (σ := WbX) (fun x => x.k ≤ px.length ∧ x.bs = wrL K (Wn : Int) 0 (px.take x.k) ∧ (x.p = none ∨ x.p = some ⟨gB, 0, none⟩)) [16, 17, 19, 98, 99, 100, 101, 102, 103, 104, 105, 106, 107, 108, 109, 110, 111, 112, 113, 114, 115, 116, 117, 118, 119] (fun x => [(98, .int .i64 (x.k : Int))]) (fun x => [QA gB [.pointer x.p, .slice x.a x.bs.length x.c] 207, QG 5 1 x.a x.c x.bs.length (Xr x.bs), QA gF [.int .i64 (QW K), .int .i64 M] 48, QA g1 [.int .i64 K, .int .i64 (Wn : Int), .int .i64 (Hn : Int), .int .i64 M] 98, A0]) (fun x => px.length - x.k) ⟨0, [], none, none, 0⟩ ?_ (by repeat (first | exact FrLe.nil | refine FrLe.cons rfl ?_)) ?_ ?_
     ·exact ⟨Nat.zero_le _, rfl, .inl rfl⟩
     ·exact (Ent.own_nil (T := 5) (s := 1) (Ent.refl _)).trans (Take.ent' (by repeat' constructor))
     ·rintro ⟨k, bs, p, a, c⟩ ⟨hk, hbs, hp⟩
      dsimp only at hk hbs hp ⊢
      refine Qb (Qa (Q7 rfl rfl rfl (WpL.nil (Qb (Ql rfl (fun h8 => ?_) (fun h8 => ?_))))))
      ·have hlt : k < px.length := by omega
       have hpb := hr _ (List.getElem_mem hlt)
       have hft := hfit _ (List.getElem_mem hlt)
       have hul : ((Qn px[k]).length : Int) = QW K := hft.2.1
       have hjl := joinB_len (Qn px[k]) fun x hx => (Yx px[k] x hx).2
       have hbl := Vl (K := K) (W := (Wn : Int)) (px.take (k)) 0
       rw [← hbs, List.length_take] at hbl
       refine Wp.skip (Qb (Wp.block ?_))
       refine Qb (Qa (Q4 k rfl rfl rfl hA (by exact Take.ent' (by repeat' constructor)) rfl (by omega) (by rw [X1]; omega) ?_))
       refine Q5 rfl rfl hA (by exact Take.ent' (by repeat' constructor)) (YP px hlt) ?_
       refine Qe rfl rfl (WpL.nil (Qb (Qa (Qe rfl rfl (WpL.nil (Qb (Qb (Qa (Qc rfl rfl (Qh rfl rfl (by repeat' constructor) (Yf _ hpb.1 hpb.2) ?_))))))))))
       rintro _ _ ⟨A1, a1, c1, rfl, rfl, hA1, hn1⟩
       simp only [Qr]
       refine QC rfl rfl (Qc rfl rfl (WpL.nil (Wp.block ?_)))
       refine Wp.loopD (σ := WoX) (fun z => z.ws.length ≤ (Qn px[k]).length ∧ z.ws = (wsOf px[k]).take z.ws.length) [17, 19, 105, 106, 107, 108, 109, 110, 111, 112, 113, 114] (fun z => [(105, .int .i64 (z.ws.length : Int)), (17, .slice z.a z.ws.length z.c)]) (fun z => QG 9 1 z.a z.c z.ws.length (strs z.ws) :: A1 :: [QA gB [.pointer p, .slice a bs.length c] 207, QG 5 1 a c bs.length (Xr bs), QA gF [.int .i64 (QW K), .int .i64 M] 48, QA g1 [.int .i64 K, .int .i64 (Wn : Int), .int .i64 (Hn : Int), .int .i64 M] 98, A0]) (fun z => (Qn px[k]).length - z.ws.length) ⟨[], none, 0⟩ ?_ (by repeat (first | exact FrLe.nil | refine FrLe.cons rfl ?_)) ?_ ?_
       ·exact ⟨Nat.zero_le _, rfl⟩
       ·exact Ent.own_nil (T := 9) (s := 1) (Ent.refl _)
       ·rintro ⟨ws, a9, c9⟩ ⟨hw1, hw2⟩
        dsimp only at hw1 hw2 ⊢
        refine Qb (Qa (Q7 rfl rfl rfl (WpL.nil (Qb (Ql rfl (fun h10 => ?_) (fun h10 => ?_))))))
        ·have hlw : ws.length < (Qn px[k]).length := by omega
         have hub := Yx px[k] _ (List.getElem_mem hlw)
         refine Wp.skip (Qb (Wp.block ?_))
         refine Qb (Qa (Q4 ws.length rfl rfl rfl hA1 (by exact Take.ent' (by repeat' constructor)) rfl (by omega) (by rw [QT]; omega) ?_))
         refine Q5 rfl rfl hA1 (by exact Take.ent' (by repeat' constructor)) (Xi _ hlw) ?_
         refine Qe rfl rfl (WpL.nil (Qa (Qc rfl rfl (Qc rfl rfl (Qh rfl rfl (by repeat' constructor) (Zz _ hub.1 (by omega)) ?_)))))
         rintro _ _ ⟨rfl, rfl⟩
         simp only [Qr]
         refine Yb rfl rfl rfl rfl ?_
         intro g4
         refine XA rfl rfl rfl (by repeat' constructor) (by rfl) (by rfl) (by rfl) (by rfl) (by have := XD px[k]; omega) (by have := XD px[k]; omega) ?_
         intro a113 c113
         rw [strs_snoc, show ws.length + 1 = (ws ++ [strOfNums (XG ((Qn px[k])[ws.length]'hlw).toNat)]).length from by simp]
         refine Qe rfl rfl (WpL.nil (Qa (QD rfl rfl rfl (Qu (by omega) (by omega)) ?_)))
         refine Qc rfl rfl (WpL.nil (Qv (⟨ws ++ [strOfNums (XG ((Qn px[k])[ws.length]'hlw).toNat)], a113, c113⟩ : WoX) ?_ ?_ (by ((repeat (first | exact Top.refl | refine Top.push rfl ?_)); done)) (FrLe.cons (congrArg (fun x => some (Value.int .i64 x)) (by simp)) (FrLe.cons rfl FrLe.nil)) ?_))
         ·refine ⟨by simp; omega, ?_⟩
          simp only [List.length_append, List.length_cons, List.length_nil, Nat.zero_add]
          have hlw2 : ws.length < (wsOf px[k]).length := by simp [wsOf]; omega
          rw [List.take_succ_eq_append_getElem hlw2, ← hw2]
          simp [wsOf]
         ·simp only [List.length_append, List.length_cons, List.length_nil]; omega
         ·exact Ent.refl _
        ·have hwl : ws.length = (wsOf px[k]).length := by simp [wsOf]; omega
         have hwe : ws = wsOf px[k] := by rw [hw2, hwl, List.take_length]
         have hint : [32].intercalate (ws.map Xh) = X9 (Qn px[k]) := by rw [hwe, wsOf_bytes, joinB_inter]
         refine QM (Qa (Qc rfl rfl (Qh rfl rfl (by repeat' constructor) (Join_spec _ _ ws ⟨#[32]⟩ (by simp [wsOf] at hwl; omega) (by have := XD px[k]; omega) (by rw [show Xh ⟨#[32]⟩ = [32] from rfl, hint]; have := XD px[k]; omega)) ?_)))
         rintro _ _ ⟨sj, rfl, hsj, rfl⟩
         simp only [Qr]
         have hsj2 : Xh sj = X9 (Qn px[k]) := hsj.trans hint
         have hsz : sj.size ≤ 18 := by rw [← XS, hsj2]; have := XD px[k]; omega
         have hnl : (⟨#[10]⟩ : ByteArray).size = 1 := rfl
         refine Yo rfl rfl rfl (by omega) ?_
         refine Qh rfl rfl (by repeat' constructor) (ZJ gB p a c bs hp _ (by rw [ByteArray.size_append]; omega)) ?_
         rintro _ _ ⟨ab, cb, rfl⟩
         simp only [Qr]
         refine WpL.nil (Qa (QD rfl rfl rfl (Qu (by omega) (by omega)) ?_))
         refine Qc rfl rfl (WpL.nil (Qv (⟨k + 1, bs ++ Xh (sj ++ ⟨#[10]⟩), some ⟨gB, 0, none⟩, ab, cb⟩ : WbX) ?_ ?_ (by ((repeat (first | exact Top.refl | refine Top.push rfl ?_)); done)) (by repeat (first | exact FrLe.nil | refine FrLe.cons rfl ?_)) ?_))
         ·refine ⟨by simp only; omega, ?_, .inr rfl⟩
          simp only
          rw [wr_take hlt, hbs, X0, hsj2, show nlB K (Wn : Int) k = true from decide_eq_true (.inl (by omega)), if_pos rfl, show Xh ⟨#[10]⟩ = [10] from rfl]
         ·simp only; omega
         ·exact Take.ent' (by repeat' constructor)
      ·have hke : k = px.length := by omega
       rw [hke, List.take_length] at hbs
       have hbl := Vl (K := K) (W := (Wn : Int)) px 0
       have hbp := wrL_pos (K := K) (W := (Wn : Int)) hne hun 0
       have hbb := wrL_byte (K := K) (W := (Wn : Int)) px 0
       subst hbs
       refine QM (Qb (Qa (Qh rfl rfl (by repeat' constructor) (BString_spec gB c p a _ hbp (by omega) hbb) ?_)))
       rintro _ _ ⟨rfl, rfl⟩
       simp only [Qr]
       refine Qe rfl rfl (Qe rfl rfl (WpL.nil (Qi ?_)))
       apply RetQ.mk
       ·exact (QB rfl rfl rfl)
       ·exact ⟨_, _, rfl, .inl ⟨hWP, rfl, Y8 hbb, by rw [ZC]; omega⟩, rfl⟩
       ·exact Take.ent' (by repeat' constructor)
  ·have hg2 := of_decide_eq_true hg2
   refine Qd rfl rfl rfl (by decide) (Qd rfl rfl rfl (by decide) (Qt rfl rfl rfl (WpL.nil (Xc rfl (Qb (Qa (Qe rfl rfl (Qe rfl rfl (WpL.nil (Qi ?_))))))))))
   apply RetQ.mk
   ·exact (QB rfl rfl rfl)
   ·exact ⟨_, _, rfl, .inr ⟨fun h => hg2 (by have := h.2.1; omega), rfl, rfl⟩, rfl⟩
   ·exact Take.ent' (by repeat' constructor)
 ·simp only [Qr]
  exfalso
  exact hP' hP

end Go.Proofs.YtggamdlpiejbiaaGreat
