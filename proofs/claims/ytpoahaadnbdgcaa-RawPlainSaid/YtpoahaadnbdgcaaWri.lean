/- Walks. -/
import Derived.Test.YtpoahaadnbdgcaaDg
import Derived.Test.YtpoahaadnbdgcaaBld
namespace Go.Proofs.Ytpoahaadnbdgcaa
open Go.RowKit Go.Shelf


def strs (xs : List ByteArray) : List Value := xs.map Value.string
theorem strs_len (xs : List ByteArray) : (strs xs).length = xs.length := List.length_map _
theorem strs_at (xs : List ByteArray) {k : Nat} (h : k < xs.length) : (strs xs)[k]? = some (.string (xs[k]'h)) := by simp [strs, List.getElem?_map, List.getElem?_eq_getElem h]
theorem strs_snoc (xs : List ByteArray) (x : ByteArray) : strs xs ++ [.string x] = strs (xs ++ [x]) := by simp [strs]
theorem inter_map {α β : Type} (f : α → β) (sep : List α) (xs : List (List α)) : (sep.intercalate xs).map f = (sep.map f).intercalate (xs.map (·.map f)) := by
  simp only [List.intercalate]
  induction xs with
  | nil => rfl
  | cons x xs ih =>
    cases xs with
    | nil => simp
    | cons y ys => simp only [List.map_cons, List.intersperse_cons_cons, List.flatten_cons, List.map_append] at ih ⊢; rw [ih]
theorem Join_spec (a : Option Addr) (c : Nat) (xs : List ByteArray) (sep : ByteArray) (h0 : 0 < xs.length) (h1 : xs.length ≤ 140737488355328) (h2 : ((bsOf sep).intercalate (xs.map bsOf)).length ≤ 140737488355328) :
    Fn Try.prog 31 #[.slice a xs.length c, .string sep] [own 9 1 a c xs.length (strs xs)] (fun v l => ∃ s, v = .string s ∧ bsOf s = (bsOf sep).intercalate (xs.map bsOf) ∧ l = [own 9 1 a c xs.length (strs xs)]) := by
  have e1 : (Lib.join (xs.map (·.data.toList)) sep.data.toList).map (fun b => (b.toNat : Int)) = (bsOf sep).intercalate (xs.map bsOf) := by
    unfold Lib.join bsOf
    rw [inter_map, List.map_map]
    rfl
  refine Fn.ownSome Take1.here (fun e => by rw [← List.length_eq_zero_iff, strs_len] at e; omega) fun g e hmc => ?_
  subst e
  intro w U hs
  have hs2 := hs
  obtain ⟨S, hp, _⟩ := hs2
  have hlt : g < w.heap.size := by
    rcases own_form hp with ⟨e, _⟩ | ⟨g', cur, e, hg, _⟩
    · cases e
    · injection e with e; injection e with e _ _; subst e; exact (Array.getElem?_eq_some_iff.1 hg).1
  have hj := Try.strings_Join g 0 c xs sep w (fun j x hx => by
    have hjl := (List.getElem?_eq_some_iff.1 hx).1
    have hxe := (List.getElem?_eq_some_iff.1 hx).2
    have := own_cells hp rfl j _ (strs_at xs hjl)
    rw [hxe] at this
    simpa [add0] using this) hlt h1 hmc (by rw [← e1, List.length_map] at h2; exact h2)
  refine hj.mono ?_
  rintro e w' ⟨rfl, hb⟩
  exact ⟨_, _, rfl, ⟨_, rfl, by rw [← e1]; simp [bsOf], rfl⟩, Out.chg hs hb⟩
theorem joinB_inter : ∀ (xs : List Int), joinB xs = [32].intercalate (xs.map fun x => digs x.toNat)
  | [] => rfl
  | [x] => by simp [joinB, List.intercalate]
  | x :: y :: xs => by
    rw [joinB, joinB_inter (y :: xs)]
    simp [List.intercalate]
theorem digs_len5 {x : Int} (h : x ≤ 65535) : 1 ≤ (digs x.toNat).length ∧ (digs x.toNat).length ≤ 5 := by
  rw [lowD_digs, List.length_reverse, List.length_map]
  obtain ⟨t, ht⟩ := lowD_head 10 x.toNat
  have := lowD_len20 (b := 10) (n := x.toNat) (by omega) 4 (by omega)
  rw [ht] at this ⊢
  simp only [List.length_cons] at this ⊢
  omega
theorem joinB_len : ∀ (xs : List Int), (∀ x ∈ xs, x ≤ 65535) → (joinB xs).length ≤ 6 * xs.length ∧ (xs ≠ [] → 1 ≤ (joinB xs).length)
  | [], _ => by simp [joinB]
  | [x], h => by
    have := digs_len5 (h x (by simp))
    simp only [joinB, List.length_cons, List.length_nil]; omega
  | x :: y :: xs, h => by
    have h1 := digs_len5 (h x (by simp))
    have h2 := joinB_len (y :: xs) fun z hz => h z (by simp [hz])
    simp only [joinB, List.length_append, List.length_cons] at h2 ⊢; omega
theorem joinB_byte : ∀ (xs : List Int), ∀ b ∈ joinB xs, 0 ≤ b ∧ b ≤ 255
  | [], b, hb => by simp [joinB] at hb
  | [x], b, hb => by have := digs_bd _ b hb; omega
  | x :: y :: xs, b, hb => by
    rw [joinB] at hb
    rcases List.mem_append.1 hb with hb | hb
    · have := digs_bd _ b hb; omega
    · rcases List.mem_cons.1 hb with hb | hb
      · omega
      · exact joinB_byte (y :: xs) b hb
theorem wrL_len {K W : Int} : ∀ (l : List Int) (i : Nat), (wrL K W i l).length ≤ 20 * l.length
  | [], i => by simp [wrL]
  | p :: l, i => by
    have h1 := wrL_len (K := K) (W := W) l (i + 1)
    have h2 := (joinB_len (unpackS p) fun x hx => (unpackS_bd p x hx).2).1
    have h3 := unpackS_len p
    simp only [wrL, pxB, List.length_append, List.length_cons]
    split <;> simp <;> omega
theorem wrL_byte {K W : Int} : ∀ (l : List Int) (i : Nat), ∀ b ∈ wrL K W i l, 0 ≤ b ∧ b ≤ 255
  | [], i, b, hb => by simp [wrL] at hb
  | p :: l, i, b, hb => by
    rw [wrL, pxB] at hb
    rcases List.mem_append.1 hb with hb | hb
    · rcases List.mem_append.1 hb with hb | hb
      · exact joinB_byte _ b hb
      · split at hb
        · simp at hb; omega
        · simp at hb
    · exact wrL_byte l (i + 1) b hb
theorem wrL_pos {K W : Int} {l : List Int} (h : l ≠ []) (hu : ∀ p ∈ l, unpackS p ≠ []) (i : Nat) : 0 < (wrL K W i l).length := by
  cases l with
  | nil => exact absurd rfl h
  | cons p l =>
    have := (joinB_len (unpackS p) fun x hx => (unpackS_bd p x hx).2).2 (hu p (by simp))
    simp only [wrL, pxB, List.length_append]; omega
theorem digs_str (n : Nat) : bsOf (strOfNums (digs n)) = digs n := bsOf_nums fun x hx => by have := digs_bd n x hx; omega
structure WbX where
  (k : Nat) (bs : List Int) (p a : Option Addr) (c : Nat)
theorem ix_mul {y H W : Int} (h0 : 0 ≤ y) (h1 : y < H) (hW : 0 ≤ W) : 0 ≤ y * W ∧ (y + 1) * W = y * W + W ∧ y * W + W ≤ H * W := by
  have e : (y + 1) * W = y * W + W := by rw [Int.add_mul, Int.one_mul]
  refine ⟨Int.mul_nonneg h0 hW, e, ?_⟩
  rw [← e]
  exact Int.mul_le_mul_of_nonneg_right (by omega) hW
theorem mod_row {q r W : Int} (h0 : 0 ≤ r) (h1 : r < W) : (q * W + r) % W = r := by
  rw [Int.add_comm, Int.add_mul_emod_self_right]
  exact Int.emod_eq_of_lt h0 h1

theorem Odd_spec (g : Nat) (p ch mx : Int) (h0 : 0 ≤ p) (h1 : p < 18446744073709551616) : Fn Try.prog 25 #[.int .u64 p, .pointer (some ⟨g, 0, none⟩)] [blk g [.int .i64 ch, .int .i64 mx] 43] (fun v l => v = .bool (!decide (FitP p ch mx)) ∧ l = [blk g [.int .i64 ch, .int .i64 mx] 43]) := by
  refine Fn.intro (vs := [.int .u64 p, .pointer (some ⟨g, 0, none⟩)]) Try.func25 rfl Try.ntmps25 rfl ?_
  refine Wp.seq ?_
  refine Wp.region ?_
  refine s_as rfl rfl ?_
  refine WpL.nil ?_
  refine Wp.seq ?_
  refine Wp.region ?_
  refine s_mv rfl rfl ?_
  refine s_lda (vs := [_, _]) rfl rfl rfl (by rfl) ?_
  refine s_callf rfl rfl (by repeat' constructor) (Fits_spec _ _ _ h0 h1) ?_
  rintro _ _ ⟨rfl, rfl⟩
  simp only [napp]
  refine s_not rfl rfl ?_
  refine s_as rfl rfl ?_
  refine WpL.nil ?_
  refine Wp.ret ?_
  apply RetQ.mk
  · exact (Res.one rfl rfl)
  · exact ⟨rfl, rfl⟩
  · first | exact Ent.refl _ | exact Ent.nil _ | exact Take.ent' (by repeat' constructor) | (repeat (first | exact Ent.refl _ | refine Ent.drop ?_))

theorem IndexOdd_spec (A0 : HP) (a0 : Option Addr) (c0 : Nat) (px : List Int) (hA : RdsL [A0] a0 (pxs px)) (hr : ∀ p ∈ px, 0 ≤ p ∧ p < 18446744073709551616) (hl : px.length ≤ 140737488355328) (g : Nat) (ch mx : Int) : Fn Try.prog 43 #[.slice a0 px.length c0, .func (.func 25) #[] #[.pointer (some ⟨g, 0, none⟩)]] [blk g [.int .i64 ch, .int .i64 mx] 43, A0] (fun v l => ∃ r : Int, v = .int .i64 r ∧ (0 ≤ r ↔ ¬ ∀ p ∈ px, FitP p ch mx) ∧ l = [blk g [.int .i64 ch, .int .i64 mx] 43, A0]) := by
  refine Fn.intro (vs := [.slice a0 px.length c0, .func (.func 25) #[] #[.pointer (some ⟨g, 0, none⟩)]]) Try.func43 rfl Try.ntmps43 rfl ?_
  refine Wp.seq ?_
  refine Wp.region ?_
  refine s_as rfl rfl ?_
  refine WpL.nil ?_
  refine Wp.seq ?_
  refine Wp.seq ?_
  refine Wp.region ?_
  refine s_mv rfl rfl ?_
  refine s_lenl rfl rfl ?_
  refine s_mv rfl rfl ?_
  refine WpL.nil ?_
  refine Wp.block ?_
  refine Wp.loopD (σ := Nat) (fun k => k ≤ px.length ∧ ∀ p ∈ px.take k, FitP p ch mx) [4, 5, 8, 9, 10, 11, 12, 13, 14, 15, 16, 17, 18] (fun k => [(8, .int .i64 (k : Int))]) (fun k => [blk g [.int .i64 ch, .int .i64 mx] 43, A0]) (fun k => px.length - k) 0 ?_ (by repeat (first | exact FrLe.nil | refine FrLe.cons rfl ?_)) ?_ ?_
  · exact ⟨Nat.zero_le _, by simp⟩
  · first | exact Ent.refl _ | exact Ent.nil _ | exact Take.ent' (by repeat' constructor) | (repeat (first | exact Ent.refl _ | refine Ent.drop ?_))
  · rintro k ⟨hk, hf⟩
    refine Wp.seq ?_
    refine Wp.region ?_
    refine s_lt rfl rfl rfl ?_
    refine WpL.nil ?_
    refine Wp.seq ?_
    refine Wp.condD rfl (fun h1 => ?_) (fun h1 => ?_)
    · have hlt : k < px.length := by omega
      have hpb := hr _ (List.getElem_mem hlt)
      refine Wp.skip ?_
      refine Wp.seq ?_
      refine Wp.block ?_
      refine Wp.seq ?_
      refine Wp.region ?_
      refine s_mv rfl rfl ?_
      refine s_as rfl rfl ?_
      refine WpL.nil ?_
      refine Wp.seq ?_
      refine Wp.region ?_
      refine s_mv rfl rfl ?_
      refine s_mv rfl rfl ?_
      refine s_mv rfl rfl ?_
      refine s_ixa k rfl rfl rfl hA (by first | exact Take.ent' (by repeat' constructor) | (repeat (first | exact Ent.refl _ | refine Ent.drop ?_))) rfl (by omega) (by rw [pxs_len]; omega) ?_
      refine s_ldx rfl rfl hA (by first | exact Take.ent' (by repeat' constructor) | (repeat (first | exact Ent.refl _ | refine Ent.drop ?_))) (pxs_at px hlt) ?_
      refine s_call (u := []) (c := [.pointer (some ⟨g, 0, none⟩)]) rfl rfl rfl rfl (by repeat' constructor) (Odd_spec g _ ch mx hpb.1 hpb.2) ?_
      rintro _ _ ⟨rfl, rfl⟩
      simp only [napp]
      refine WpL.nil ?_
      refine Wp.cond rfl (fun h2 => ?_) (fun h2 => ?_)
      · refine Wp.seq ?_
        refine Wp.region ?_
        refine s_mv rfl rfl ?_
        refine s_as rfl rfl ?_
        refine WpL.nil ?_
        refine Wp.ret ?_
        apply RetQ.mk
        · exact (Res.one rfl rfl)
        · exact ⟨_, rfl, ⟨fun _ hall => (by have := hall _ (List.getElem_mem hlt); rw [decide_eq_true this] at h2; cases h2), fun _ => (by omega)⟩, rfl⟩
        · first | exact Ent.refl _ | exact Ent.nil _ | exact Take.ent' (by repeat' constructor) | (repeat (first | exact Ent.refl _ | refine Ent.drop ?_))
      · refine Wp.skip ?_
        refine Wp.region ?_
        first | refine s_add rfl rfl rfl (w_i64 (by omega) (by omega)) ?_ | refine s_addw rfl rfl rfl ?_
        refine s_mv rfl rfl ?_
        refine WpL.nil ?_
        refine loopD.next (k + 1) ?_ ?_ (by repeat (first | exact Top.refl | refine Top.push rfl ?_ | refine Top.drop rfl ?_)) (by repeat (first | exact FrLe.nil | refine FrLe.cons rfl ?_)) ?_
        · refine ⟨by omega, fun p hp => ?_⟩
          rw [take_snoc' px hlt] at hp
          rcases List.mem_append.1 hp with hp | hp
          · exact hf p hp
          · have := List.mem_singleton.1 hp; subst this; simpa using h2
        · omega
        · first | exact Ent.refl _ | exact Ent.nil _ | exact Take.ent' (by repeat' constructor) | (repeat (first | exact Ent.refl _ | refine Ent.drop ?_))
    · refine Wp.exit ?_
      refine Wp.seq ?_
      refine Wp.region ?_
      refine s_as rfl rfl ?_
      refine WpL.nil ?_
      refine Wp.ret ?_
      apply RetQ.mk
      · exact (Res.one rfl rfl)
      · have hke : k = px.length := by omega
        rw [hke, List.take_length] at hf
        exact ⟨_, rfl, ⟨fun h => by omega, fun h => absurd hf h⟩, rfl⟩
      · first | exact Ent.refl _ | exact Ent.nil _ | exact Take.ent' (by repeat' constructor) | (repeat (first | exact Ent.refl _ | refine Ent.drop ?_))

theorem ContainsOdd_spec (A0 : HP) (a0 : Option Addr) (c0 : Nat) (px : List Int) (hA : RdsL [A0] a0 (pxs px)) (hr : ∀ p ∈ px, 0 ≤ p ∧ p < 18446744073709551616) (hl : px.length ≤ 140737488355328) (g : Nat) (ch mx : Int) : Fn Try.prog 19 #[.slice a0 px.length c0, .func (.func 25) #[] #[.pointer (some ⟨g, 0, none⟩)]] [blk g [.int .i64 ch, .int .i64 mx] 43, A0] (fun v l => v = .bool (decide (¬ ∀ p ∈ px, FitP p ch mx)) ∧ l = [blk g [.int .i64 ch, .int .i64 mx] 43, A0]) := by
  refine Fn.intro (vs := [.slice a0 px.length c0, .func (.func 25) #[] #[.pointer (some ⟨g, 0, none⟩)]]) Try.func19 rfl Try.ntmps19 rfl ?_
  refine Wp.seq ?_
  refine Wp.region ?_
  refine s_as rfl rfl ?_
  refine WpL.nil ?_
  refine Wp.seq ?_
  refine Wp.region ?_
  refine s_mv rfl rfl ?_
  refine s_mv rfl rfl ?_
  refine s_callf rfl rfl (by repeat' constructor) (IndexOdd_spec A0 a0 c0 px hA hr hl _ _ _) ?_
  rintro _ _ ⟨ri, rfl, hri, rfl⟩
  simp only [napp]
  refine s_ge rfl rfl rfl ?_
  refine s_as rfl rfl ?_
  refine WpL.nil ?_
  refine Wp.ret ?_
  apply RetQ.mk
  · exact (Res.one rfl rfl)
  · exact ⟨congrArg Value.bool (by rw [decide_eq_decide]; exact hri), rfl⟩
  · first | exact Ent.refl _ | exact Ent.nil _ | exact Take.ent' (by repeat' constructor) | (repeat (first | exact Ent.refl _ | refine Ent.drop ?_))

end Go.Proofs.Ytpoahaadnbdgcaa
