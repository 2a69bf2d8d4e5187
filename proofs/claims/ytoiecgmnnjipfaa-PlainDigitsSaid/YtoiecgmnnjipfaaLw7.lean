/- Walks. -/
import Derived.Test.YtoiecgmnnjipfaaLw6
namespace Go.Proofs.Ytoiecgmnnjipfaa
open Go.RowKit Go.Shelf


/-! ### Cut off behind a number -/
def cntB (K b : Int) : Bool := decide ((K = 1 ∧ b ≠ 10) ∨ (K ≠ 1 ∧ b = 10))
section
variable {K W H M : Int}
theorem digs_ge (n : Nat) : ∀ b ∈ digs n, 48 ≤ b := by
  induction n using Nat.strongRecOn with
  | _ n ih =>
    intro b hb
    rw [digs] at hb
    split at hb
    · simp at hb; omega
    · rcases List.mem_append.1 hb with hb | hb
      · exact ih (n / 10) (by omega) b hb
      · simp at hb; omega
theorem joinB_ge : ∀ (xs : List Int), ∀ b ∈ joinB xs, 32 ≤ b
  | [], b, hb => by simp [joinB] at hb
  | [x], b, hb => by have := digs_ge _ b hb; omega
  | x :: y :: xs, b, hb => by
    rw [joinB] at hb
    rcases List.mem_append.1 hb with hb | hb
    · have := digs_ge _ b hb; omega
    · rcases List.mem_cons.1 hb with hb | hb
      · omega
      · exact joinB_ge (y :: xs) b hb
/-- A pixel's bytes: the counted one comes last, but for a line's end behind a bit. -/
theorem px_shape (h1 : 1 ≤ K) (h3 : K ≤ 3) (hM : K = 1 → M = 1) {p : Int} (hc : Can (chK K) M p) (i : Nat) :
    ∃ A b B, pxB K W i p = A ++ b :: B ∧ (∀ x ∈ A, cntB K x = false) ∧ cntB K b = true ∧ (∀ x ∈ B, cntB K x = false) ∧ Feed K M (A ++ [b]) (unpackS p) := by
  have hf := feed_px (W := W) h1 h3 hM hc i .nil
  rw [List.append_nil, List.append_nil] at hf
  by_cases hK : K = 1
  · subst hK
    obtain ⟨hl, _, hs⟩ := hc
    have e1 : chK 1 = 1 := rfl
    rw [e1] at hl
    unfold pxB
    match hu : unpackS p, hl with
    | [x], _ =>
      have hx := hs x (by rw [hu]; simp)
      rw [hM rfl] at hx
      rw [joinB, digs_one (by omega) (by omega)]
      refine ⟨[], 48 + x, if nlB 1 W i = true then [10] else [], rfl, by simp, decide_eq_true (.inl ⟨rfl, by omega⟩), fun y hy => ?_, .bit rfl (by omega) .nil⟩
      split at hy
      · simp at hy; subst hy; rfl
      · simp at hy
    | [], hl => simp at hl
    | _ :: _ :: _, hl => simp at hl; omega
  · have hn : nlB K W i = true := decide_eq_true (.inl (by omega))
    have e : pxB K W i p = joinB (unpackS p) ++ [10] := by unfold pxB; rw [hn, if_pos rfl]
    rw [e] at hf ⊢
    refine ⟨joinB (unpackS p), 10, [], rfl, fun x hx => ?_, decide_eq_true (.inr ⟨hK, rfl⟩), by simp, hf⟩
    have := joinB_ge _ x hx
    exact decide_eq_false (by omega)
theorem cnt_none {l : List Int} (h : ∀ x ∈ l, cntB K x = false) : l.countP (cntB K) = 0 := by
  rw [List.countP_eq_zero]
  intro x hx
  rw [h x hx]
  decide
theorem px_cnt {A B : List Int} {b : Int} (hA : ∀ x ∈ A, cntB K x = false) (hb : cntB K b = true) (hB : ∀ x ∈ B, cntB K x = false) : (A ++ b :: B).countP (cntB K) = 1 := by
  rw [List.countP_append, cnt_none hA, List.countP_cons, cnt_none hB, hb]
  rfl
theorem wr_cnt (h1 : 1 ≤ K) (h3 : K ≤ 3) (hM : K = 1 → M = 1) : ∀ (l : List Int) (i : Nat), (∀ p ∈ l, Can (chK K) M p) → (wrL K W i l).countP (cntB K) = l.length
  | [], _, _ => rfl
  | p :: l, i, h => by
    obtain ⟨A, b, B, e, hA, hb, hB, _⟩ := px_shape (W := W) h1 h3 hM (h p (by simp)) i
    rw [wrL, List.countP_append, e, px_cnt hA hb hB, wr_cnt h1 h3 hM l (i + 1) fun q hq => h q (by simp [hq])]
    simp; omega
theorem cut_feed (h1 : 1 ≤ K) (h3 : K ≤ 3) (hM : K = 1 → M = 1) : ∀ (l : List Int) (i j : Nat), (∀ p ∈ l, Can (chK K) M p) → (j = 0 ∨ ∃ b, (wrL K W i l)[j - 1]? = some b ∧ cntB K b = true) →
    Feed K M ((wrL K W i l).take j) ((l.take (((wrL K W i l).take j).countP (cntB K))).flatMap unpackS)
  | [], i, j, _, _ => by simp [wrL]; exact .nil
  | p :: l, i, j, h, hj => by
    rcases hj with rfl | ⟨c, hc, hcc⟩
    · simp; exact .nil
    · by_cases hj0 : j = 0
      · subst hj0; simp; exact .nil
      · obtain ⟨A, b, B, e, hA, hb, hB, hf⟩ := px_shape (W := W) h1 h3 hM (h p (by simp)) i
        have hfp := feed_px (W := W) (bs := []) (ss := []) h1 h3 hM (h p (by simp)) i .nil
        rw [wrL] at hc ⊢
        have hlen : (pxB K W i p).length = A.length + 1 + B.length := by rw [e]; simp; omega
        by_cases hjl : j ≤ (pxB K W i p).length
        · rw [List.take_append_of_le_length hjl]
          rw [List.getElem?_append_left (by omega), e] at hc
          have hja : j - 1 = A.length := by
            rcases Nat.lt_trichotomy (j - 1) A.length with h4 | h4 | h4
            · rw [List.getElem?_append_left h4] at hc
              rw [hA c (List.mem_of_getElem? hc)] at hcc
              cases hcc
            · exact h4
            · rw [List.getElem?_append_right (by omega), show j - 1 - A.length = (j - 2 - A.length) + 1 by omega, List.getElem?_cons_succ] at hc
              rw [hB c (List.mem_of_getElem? hc)] at hcc
              cases hcc
          have ht : (pxB K W i p).take j = A ++ [b] := by
            rw [e, show A ++ b :: B = (A ++ [b]) ++ B by simp, List.take_append_of_le_length (by simp; omega), List.take_of_length_le (by simp; omega)]
          rw [ht, px_cnt (B := []) hA hb (by simp)]
          simpa using hf
        · have hc2 : (wrL K W (i + 1) l)[j - (pxB K W i p).length - 1]? = some c := by
            rw [List.getElem?_append_right (by omega)] at hc
            rw [show j - (pxB K W i p).length - 1 = j - 1 - (pxB K W i p).length by omega]
            exact hc
          have ih := cut_feed h1 h3 hM l (i + 1) (j - (pxB K W i p).length) (fun q hq => h q (by simp [hq])) (.inr ⟨c, hc2, hcc⟩)
          rw [List.take_append, List.take_of_length_le (by omega), List.countP_append, e, px_cnt hA hb hB, ← e, Nat.add_comm 1, List.take_succ_cons, List.flatMap_cons]
          exact feed_px h1 h3 hM (h p (by simp)) i ih
theorem div_row {q r W : Int} (h0 : 0 ≤ r) (h1 : r < W) : (q * W + r) / W = q := by
  rw [Int.add_comm, Int.add_mul_ediv_right _ _ (by omega), Int.ediv_eq_zero_of_lt h0 h1, Int.zero_add]
/-- A raster that is cut off is too short. -/
theorem read_cut (hP : PlainH K W H M) {bs l : List Int} (f : Feed K M bs (l.flatMap unpackS)) (hc : ∀ p ∈ l, Can (chK K) M p) (hl : (l.length : Int) < H * W) :
    readS K W H M bs = ([], 0, 6) ∧ (endR K W H (bs.foldl (fun s c => (putR K W H M s c).1) s0R)).1.last = 2 ∧ (endR K W H (bs.foldl (fun s c => (putR K W H M s c).1) s0R)).1.rows = (l.length : Int) / W := by
  have hP2 := hP.1
  unfold MayH at hP2
  obtain ⟨row', rows', out, hs, hr, hq, hH⟩ := (rows_fold (K := K) (W := W) (H := H) (M := M) (by omega) l [] 0 hc (by simp; omega) (by omega)).2 (by simpa using hl)
  have g := feed_on (H := H) (by omega) f s0R _ out ⟨rfl, rfl, by simp [s0R]; omega⟩ hs
  have he : endsR (chK K) ⟨-1, [], row', rows', 0, 0⟩ = ⟨-1, [], row', rows', 0, 0⟩ := if_pos rfl
  have hf : fullR W H ⟨-1, [], row', rows', 0, 0⟩ = (⟨-1, [], row', rows', 0, 0⟩, []) := fullR_no hr
  have hend : endR K W H ⟨-1, [], row', rows', 0, 0⟩ = (⟨-1, [], row', rows', 2, 6⟩, []) := by
    unfold endR
    rw [he, hf, if_neg (by simp), if_pos rfl]
    rfl
  refine ⟨?_, ?_, ?_⟩
  · have := g.readL [] 0 []
    rw [List.append_nil] at this
    rw [readS, if_pos hP, this, readL, hend]
    rfl
  · rw [g.fold, hend]
  · rw [g.fold, hend]
    simp at hq
    rw [← hq]
    exact (div_row (by omega) hr).symm
end
theorem cnt_take {K : Int} {s : ByteArray} {k : Nat} (h : k < s.size) : ((bsOf s).take (k + 1)).countP (cntB K) = ((bsOf s).take k).countP (cntB K) + (if cntB K ((s[k]'h).toNat : Int) = true then 1 else 0) := by
  have hk : k < (bsOf s).length := by rw [bsOf_len]; exact h
  rw [take_snoc' _ hk, List.countP_append, bsOf_at h, List.countP_cons, List.countP_nil]
  simp
structure CtX where
  (i n : Nat) (t : ByteArray)
structure PdX where
  (k : Nat) (n : Int) (one row : List Int) (rows last e : Int) (b1 : Option Addr) (d1 : Nat) (b2 : Option Addr) (d2 : Nat)

set_option maxHeartbeats 4000000 in
theorem PlainCuts_spec (A0 : HP) (a0 : Option Addr) (c0 : Nat) (zs : List Int) (hz : ∀ x ∈ zs, -9223372036854775808 ≤ x ∧ x < 9223372036854775808) (hzl : zs.length ≤ 9223372036854775807) (hA : RdsL [A0] a0 (ints zs)) (K W H M b : Int) (k0 : -9223372036854775808 ≤ K) (k1 : K < 9223372036854775808) (w0 : -9223372036854775808 ≤ W) (w1 : W < 9223372036854775808) (h0 : -9223372036854775808 ≤ H) (h1 : H < 9223372036854775808) (m0 : -9223372036854775808 ≤ M) (m1 : M < 9223372036854775808) (b0 : -9223372036854775808 ≤ b) (b1 : b < 9223372036854775808) : Fn Try.prog 7 #[.agg #[.int .i64 K, .int .i64 W, .int .i64 H, .int .i64 M], .slice a0 zs.length c0, .int .i64 b] [A0] (fun v l => v = .bool true ∧ l = [A0]) := by
  have hPH := head_plain (K := K) (W := W) (H := H) (M := M) (m := 4) (by omega) (by omega)
  have hWq : 1 + aroundI W 4 ≤ 4 := by have := aroundI_bd (x := W) (m := 4) (by omega); omega
  have hHq : 1 + aroundI H 4 ≤ 4 := by have := aroundI_bd (x := H) (m := 4) (by omega); omega
  refine Fn.intro (vs := [.agg #[.int .i64 K, .int .i64 W, .int .i64 H, .int .i64 M], .slice a0 zs.length c0, .int .i64 b]) Try.func7 rfl Try.ntmps7 rfl ?_
  refine Wp.seq ?_
  refine Wp.region ?_
  refine s_box rfl rfl rfl ?_
  intro g1
  refine s_as rfl rfl ?_
  refine WpL.nil ?_
  refine Wp.seq ?_
  refine Wp.region ?_
  refine s_lda (vs := [_, _, _, _]) rfl rfl rfl (by rfl) ?_
  refine s_callf rfl rfl (by repeat' constructor) (Head_spec K W H M 4 k0 k1 w0 w1 h0 h1 m0 m1 (by omega) (by omega)) ?_
  rintro _ _ ⟨rfl, rfl⟩
  simp only [List.nil_append, List.cons_append]
  generalize hdK K = K1 at hPH ⊢
  have hWb := aroundI_bd (x := W) (m := 4) (by omega)
  have hHb := aroundI_bd (x := H) (m := 4) (by omega)
  generalize 1 + aroundI W 4 = W1 at hPH ⊢ hWq
  generalize 1 + aroundI H 4 = H1 at hPH ⊢ hHq
  generalize gdM (gdK K) M = M1 at hPH ⊢
  have hP3 := hPH
  unfold PlainH MayH at hP3
  have hmul := mul_small (W := W1) (H := H1) (by omega) hWq (by omega) hHq
  have hpos : 1 ≤ W1 * H1 := Int.mul_pos (show 0 < W1 by omega) (show 0 < H1 by omega)
  refine s_al rfl ?_
  intro gH
  refine s_sta rfl rfl rfl (by rfl) rfl ?_
  refine WpL.nil ?_
  refine Wp.seq ?_
  refine Wp.region ?_
  refine s_mv rfl rfl ?_
  refine s_lda (vs := [_, _, _, _]) rfl rfl rfl (by rfl) ?_
  refine s_callf rfl rfl (by repeat' constructor) (Pixels_spec A0 a0 c0 zs hz hzl hA _ _ _ _ hPH (by omega) (by omega)) ?_
  rintro _ _ ⟨px, ap, cp, rfl, hpl, hpc, rfl⟩
  simp only [List.nil_append, List.cons_append]
  refine s_as rfl rfl ?_
  refine WpL.nil ?_
  refine Wp.seq ?_
  refine Wp.region ?_
  refine s_mv rfl rfl ?_
  refine s_lda (vs := [_, _, _, _]) rfl rfl rfl (by rfl) ?_
  refine s_callf rfl rfl (by repeat' constructor) (rWrite_spec _ ap cp px RdsL.own (fun p hp => (hpc p hp).2) (by omega) _ _ _ _) ?_
  rintro _ _ ⟨s, e, rfl, hw, rfl⟩
  simp only [List.nil_append, List.cons_append]
  have hwr := wr_good hPH hpl hpc
  rcases hw with ⟨_, rfl, hbs, hsz⟩ | ⟨hw, _⟩
  rotate_left
  · exact absurd hwr hw
  refine s_mv rfl rfl ?_
  refine s_ext rfl rfl rfl ?_
  refine s_ext rfl rfl rfl ?_
  refine s_as rfl rfl ?_
  refine s_as rfl rfl ?_
  refine WpL.nil ?_
  refine Wp.seq ?_
  refine Wp.region ?_
  refine s_fa (o2 := 1) rfl rfl rfl ?_
  refine s_ld rfl rfl (by rfl) ?_
  refine s_fa (o2 := 2) rfl rfl rfl ?_
  refine s_ld rfl rfl (by rfl) ?_
  refine s_mul rfl rfl rfl (w_i64 (by omega) (by omega)) ?_
  refine s_as rfl rfl ?_
  refine WpL.nil ?_
  refine Wp.seq ?_
  refine Wp.region ?_
  refine s_mv rfl rfl ?_
  refine s_mv rfl rfl ?_
  refine s_callf rfl rfl (by repeat' constructor) (Around_spec _ _ b0 b1 (by omega)) ?_
  rintro _ _ ⟨rfl, rfl⟩
  simp only [List.nil_append, List.cons_append]
  have hkb := aroundI_bd (x := b) (m := W1 * H1) (by omega)
  generalize aroundI b (W1 * H1) = kb at hkb ⊢
  refine s_as rfl rfl ?_
  refine WpL.nil ?_
  refine Wp.seq ?_
  refine Wp.region ?_
  refine s_as rfl rfl ?_
  refine WpL.nil ?_
  refine Wp.seq ?_
  refine Wp.region ?_
  refine s_as rfl rfl ?_
  refine WpL.nil ?_
  refine Wp.seq ?_
  refine Wp.seq ?_
  refine Wp.region ?_
  refine s_as rfl rfl ?_
  refine WpL.nil ?_
  refine Wp.block ?_
  refine Wp.loopD (σ := CtX) (fun x => x.i ≤ s.size ∧ (x.n : Int) ≤ kb ∧ bsOf x.t = (bsOf s).take x.i ∧ ((bsOf s).take x.i).countP (cntB K1) = x.n ∧ (x.i = 0 ∨ (x.n : Int) < kb ∨ ∃ b, (bsOf s)[x.i - 1]? = some b ∧ cntB K1 b = true) ∧ x.t.size ≤ x.i) [13, 14, 15, 43, 44, 45, 46, 47, 48, 49, 50, 51, 52, 53, 54, 55, 56, 57, 58, 59, 60, 61, 62, 63, 64, 65, 66, 67, 68, 69, 70, 71, 72, 73, 74, 75, 76, 77, 78, 79, 80, 81, 82] (fun x => [(15, .int .i64 (x.i : Int)), (14, .int .i64 (x.n : Int)), (13, .string x.t)]) (fun x => [own 62 1 ap cp px.length (pxs px), blk gH [.int .i64 K1, .int .i64 W1, .int .i64 H1, .int .i64 M1] 23, A0]) (fun x => s.size - x.i) ⟨0, 0, ⟨#[]⟩⟩ ?_ (by repeat (first | exact FrLe.nil | refine FrLe.cons rfl ?_)) ?_ ?_
  · exact ⟨Nat.zero_le _, by simp only; omega, by rw [List.take_zero]; rfl, rfl, .inl rfl, Nat.zero_le _⟩
  · first | exact Ent.refl _ | exact Ent.nil _ | exact Take.ent' (by repeat' constructor) | (repeat (first | exact Ent.refl _ | refine Ent.drop ?_))
  · rintro ⟨i, n, t⟩ ⟨hi, hn, htb, hct, hla, htz⟩
    dsimp only at hi hn htb hct hla htz ⊢
    refine Wp.seq ?_
    refine Wp.seq ?_
    refine Wp.region ?_
    refine s_mv rfl rfl ?_
    refine s_mv rfl rfl ?_
    refine s_lens rfl Try.underlying9 rfl ?_
    refine s_lt rfl rfl rfl ?_
    refine s_mv rfl rfl ?_
    refine WpL.grd rfl rfl rfl (fun hg1 => ?_) (fun hg1 => ?_)
    · have hg1 := of_decide_eq_true hg1
      refine s_mv rfl rfl ?_
      refine WpL.gon rfl rfl ?_
      refine s_mv rfl rfl ?_
      refine WpL.gon rfl rfl ?_
      refine s_lt rfl rfl rfl ?_
      refine s_pickT rfl rfl rfl ?_
      refine WpL.nil ?_
      refine Wp.condD rfl (fun h1 => ?_) (fun h1 => ?_)
      · have hlt : i < s.size := by omega
        have hsq : ((s[((i : Int)).toNat]'(by simp; exact hlt)).toNat : Int) = ((s[i]'hlt).toNat : Int) := rfl
        have bsOf_ext : bsOf (s.extract ((i : Int)).toNat ((i : Int) + 1).toNat) = [((s[i]'hlt).toNat : Int)] := by rw [show ((i : Int)).toNat = i by omega, show ((i : Int) + 1).toNat = i + 1 by omega]; exact bsOf_ext1 hlt
        refine Wp.skip ?_
        refine Wp.seq ?_
        refine Wp.block ?_
        refine Wp.seq ?_
        refine Wp.region ?_
        refine s_mv rfl rfl ?_
        refine s_mv rfl rfl ?_
        refine s_mv rfl rfl ?_
        refine s_mv rfl rfl ?_
        first | refine s_add rfl rfl rfl (w_i64 (by omega) (by omega)) ?_ | refine s_addw rfl rfl rfl ?_
        refine s_slsm rfl Try.underlying9 rfl rfl rfl (by omega) (by omega) (by omega) ?_
        refine s_cat rfl rfl rfl (by rw [ByteArray.size_extract]; omega) ?_
        refine s_as rfl rfl ?_
        refine WpL.nil ?_
        refine Wp.seq ?_
        refine Wp.region ?_
        refine s_fa (o2 := 0) rfl rfl rfl ?_
        refine s_ld rfl rfl (by rfl) ?_
        refine s_eq rfl rfl rfl ?_
        refine s_mv rfl rfl ?_
        refine WpL.grd rfl rfl rfl (fun hg2 => ?_) (fun hg2 => ?_)
        · have hg2 := of_decide_eq_true hg2
          refine s_mv rfl rfl ?_
          refine WpL.gon rfl rfl ?_
          refine s_mv rfl rfl ?_
          refine WpL.gon rfl rfl ?_
          refine s_ixs rfl Try.underlying9 rfl rfl (by omega) (by simp; omega) ?_
          refine WpL.gon rfl rfl ?_
          refine s_ne rfl rfl rfl ?_
          refine s_pickT rfl rfl rfl ?_
          refine s_mv rfl rfl ?_
          refine WpL.grd rfl rfl rfl (fun hg3 => ?_) (fun hg3 => ?_)
          · have hg3 := of_decide_eq_false hg3
            refine s_fa (o2 := 0) rfl rfl rfl ?_
            refine WpL.gon rfl rfl ?_
            refine s_ld rfl rfl (by rfl) ?_
            refine WpL.gon rfl rfl ?_
            refine s_ne rfl rfl rfl ?_
            refine WpL.gon rfl rfl ?_
            refine s_mv rfl rfl ?_
            refine WpL.grd rfl rfl rfl (fun hg4 => ?_) (fun hg4 => ?_)
            · have hg4 := of_decide_eq_true hg4
              refine s_mv rfl rfl ?_
              refine WpL.gon rfl rfl ?_
              refine s_mv rfl rfl ?_
              refine WpL.gon rfl rfl ?_
              refine s_ixs rfl Try.underlying9 rfl rfl (by omega) (by simp; omega) ?_
              refine WpL.gon rfl rfl ?_
              refine s_eq rfl rfl rfl ?_
              refine WpL.gon rfl rfl ?_
              refine s_pickT rfl rfl rfl ?_
              refine s_pickF rfl rfl rfl ?_
              refine WpL.nil ?_
              refine Wp.condD rfl (fun h2 => ?_) (fun h2 => ?_)
              · refine Wp.region ?_
                refine s_mv rfl rfl ?_
                first | refine s_add rfl rfl rfl (w_i64 (by omega) (by omega)) ?_ | refine s_addw rfl rfl rfl ?_
                refine s_as rfl rfl ?_
                refine WpL.nil ?_
                refine Wp.region ?_
                refine s_mv rfl rfl ?_
                first | refine s_add rfl rfl rfl (w_i64 (by omega) (by omega)) ?_ | refine s_addw rfl rfl rfl ?_
                refine s_as rfl rfl ?_
                refine WpL.nil ?_
                refine loopD.next (⟨i + 1, n + 1, t ++ s.extract ((i : Int)).toNat ((i : Int) + 1).toNat⟩ : CtX) ?_ ?_ (by repeat (first | exact Top.refl | refine Top.push rfl ?_ | refine Top.drop rfl ?_)) (by repeat (first | exact FrLe.nil | refine FrLe.cons rfl ?_)) ?_
                · have hcb : cntB K1 ((s[i]'hlt).toNat : Int) = true := by first | (exfalso; omega) | exact decide_eq_true (by omega)
                  refine ⟨by simp only; omega, by simp only; omega, ?_, ?_, ?_, ?_⟩
                  · simp only
                    rw [bsOf_app, htb, bsOf_ext, take_snoc' (bsOf s) (by rw [bsOf_len]; exact hlt), bsOf_at hlt]
                  · simp only
                    rw [cnt_take hlt, hct, hcb]
                    simp
                  · exact .inr (.inr ⟨_, by simp only; rw [Nat.add_sub_cancel, List.getElem?_eq_getElem (by rw [bsOf_len]; exact hlt), bsOf_at hlt], hcb⟩)
                  · simp only [ByteArray.size_append, ByteArray.size_extract]; omega
                · simp only; omega
                · first | exact Ent.refl _ | exact Ent.nil _ | exact Take.ent' (by repeat' constructor) | (repeat (first | exact Ent.refl _ | refine Ent.drop ?_))
              · refine Wp.skip ?_
                refine Wp.region ?_
                refine s_mv rfl rfl ?_
                first | refine s_add rfl rfl rfl (w_i64 (by omega) (by omega)) ?_ | refine s_addw rfl rfl rfl ?_
                refine s_as rfl rfl ?_
                refine WpL.nil ?_
                refine loopD.next (⟨i + 1, n, t ++ s.extract ((i : Int)).toNat ((i : Int) + 1).toNat⟩ : CtX) ?_ ?_ (by repeat (first | exact Top.refl | refine Top.push rfl ?_ | refine Top.drop rfl ?_)) (by repeat (first | exact FrLe.nil | refine FrLe.cons rfl ?_)) ?_
                · have hcb : cntB K1 ((s[i]'hlt).toNat : Int) = false := by first | (exfalso; omega) | exact decide_eq_false (by omega)
                  refine ⟨by simp only; omega, by simp only; omega, ?_, ?_, ?_, ?_⟩
                  · simp only
                    rw [bsOf_app, htb, bsOf_ext, take_snoc' (bsOf s) (by rw [bsOf_len]; exact hlt), bsOf_at hlt]
                  · simp only
                    rw [cnt_take hlt, hct, hcb]
                    simp
                  · exact .inr (.inl (by simp only; omega))
                  · simp only [ByteArray.size_append, ByteArray.size_extract]; omega
                · simp only; omega
                · first | exact Ent.refl _ | exact Ent.nil _ | exact Take.ent' (by repeat' constructor) | (repeat (first | exact Ent.refl _ | refine Ent.drop ?_))
            · have hg4 := of_decide_eq_false hg4
              refine WpL.goff rfl rfl rfl (by decide) ?_
              refine WpL.goff rfl rfl rfl (by decide) ?_
              refine WpL.goff rfl rfl rfl (by decide) ?_
              refine WpL.gon rfl rfl ?_
              refine s_pickF rfl rfl rfl ?_
              refine s_pickF rfl rfl rfl ?_
              refine WpL.nil ?_
              refine Wp.condF rfl ?_
              refine Wp.skip ?_
              refine Wp.region ?_
              refine s_mv rfl rfl ?_
              first | refine s_add rfl rfl rfl (w_i64 (by omega) (by omega)) ?_ | refine s_addw rfl rfl rfl ?_
              refine s_as rfl rfl ?_
              refine WpL.nil ?_
              refine loopD.next (⟨i + 1, n, t ++ s.extract ((i : Int)).toNat ((i : Int) + 1).toNat⟩ : CtX) ?_ ?_ (by repeat (first | exact Top.refl | refine Top.push rfl ?_ | refine Top.drop rfl ?_)) (by repeat (first | exact FrLe.nil | refine FrLe.cons rfl ?_)) ?_
              · have hcb : cntB K1 ((s[i]'hlt).toNat : Int) = false := by first | (exfalso; omega) | exact decide_eq_false (by omega)
                refine ⟨by simp only; omega, by simp only; omega, ?_, ?_, ?_, ?_⟩
                · simp only
                  rw [bsOf_app, htb, bsOf_ext, take_snoc' (bsOf s) (by rw [bsOf_len]; exact hlt), bsOf_at hlt]
                · simp only
                  rw [cnt_take hlt, hct, hcb]
                  simp
                · exact .inr (.inl (by simp only; omega))
                · simp only [ByteArray.size_append, ByteArray.size_extract]; omega
              · simp only; omega
              · first | exact Ent.refl _ | exact Ent.nil _ | exact Take.ent' (by repeat' constructor) | (repeat (first | exact Ent.refl _ | refine Ent.drop ?_))
          · have hg3 := of_decide_eq_true hg3
            refine WpL.goff rfl rfl rfl (by decide) ?_
            refine WpL.goff rfl rfl rfl (by decide) ?_
            refine WpL.goff rfl rfl rfl (by decide) ?_
            refine WpL.goffU rfl rfl rfl ?_
            refine WpL.goffU rfl rfl rfl ?_
            refine WpL.goffU rfl rfl rfl ?_
            refine WpL.goffU rfl rfl rfl ?_
            refine WpL.goff rfl rfl rfl (by decide) ?_
            refine s_pickT rfl rfl rfl ?_
            refine WpL.nil ?_
            refine Wp.condT rfl ?_
            refine Wp.region ?_
            refine s_mv rfl rfl ?_
            first | refine s_add rfl rfl rfl (w_i64 (by omega) (by omega)) ?_ | refine s_addw rfl rfl rfl ?_
            refine s_as rfl rfl ?_
            refine WpL.nil ?_
            refine Wp.region ?_
            refine s_mv rfl rfl ?_
            first | refine s_add rfl rfl rfl (w_i64 (by omega) (by omega)) ?_ | refine s_addw rfl rfl rfl ?_
            refine s_as rfl rfl ?_
            refine WpL.nil ?_
            refine loopD.next (⟨i + 1, n + 1, t ++ s.extract ((i : Int)).toNat ((i : Int) + 1).toNat⟩ : CtX) ?_ ?_ (by repeat (first | exact Top.refl | refine Top.push rfl ?_ | refine Top.drop rfl ?_)) (by repeat (first | exact FrLe.nil | refine FrLe.cons rfl ?_)) ?_
            · have hcb : cntB K1 ((s[i]'hlt).toNat : Int) = true := by first | (exfalso; omega) | exact decide_eq_true (by omega)
              refine ⟨by simp only; omega, by simp only; omega, ?_, ?_, ?_, ?_⟩
              · simp only
                rw [bsOf_app, htb, bsOf_ext, take_snoc' (bsOf s) (by rw [bsOf_len]; exact hlt), bsOf_at hlt]
              · simp only
                rw [cnt_take hlt, hct, hcb]
                simp
              · exact .inr (.inr ⟨_, by simp only; rw [Nat.add_sub_cancel, List.getElem?_eq_getElem (by rw [bsOf_len]; exact hlt), bsOf_at hlt], hcb⟩)
              · simp only [ByteArray.size_append, ByteArray.size_extract]; omega
            · simp only; omega
            · first | exact Ent.refl _ | exact Ent.nil _ | exact Take.ent' (by repeat' constructor) | (repeat (first | exact Ent.refl _ | refine Ent.drop ?_))
        · have hg2 := of_decide_eq_false hg2
          refine WpL.goff rfl rfl rfl (by decide) ?_
          refine WpL.goff rfl rfl rfl (by decide) ?_
          refine WpL.goff rfl rfl rfl (by decide) ?_
          refine s_pickF rfl rfl rfl ?_
          refine s_mv rfl rfl ?_
          refine WpL.gon rfl rfl ?_
          refine s_fa (o2 := 0) rfl rfl rfl ?_
          refine WpL.gon rfl rfl ?_
          refine s_ld rfl rfl (by rfl) ?_
          refine WpL.gon rfl rfl ?_
          refine s_ne rfl rfl rfl ?_
          refine WpL.gon rfl rfl ?_
          refine s_mv rfl rfl ?_
          refine WpL.grd rfl rfl rfl (fun hg5 => ?_) (fun hg5 => ?_)
          · have hg5 := of_decide_eq_true hg5
            refine s_mv rfl rfl ?_
            refine WpL.gon rfl rfl ?_
            refine s_mv rfl rfl ?_
            refine WpL.gon rfl rfl ?_
            refine s_ixs rfl Try.underlying9 rfl rfl (by omega) (by simp; omega) ?_
            refine WpL.gon rfl rfl ?_
            refine s_eq rfl rfl rfl ?_
            refine WpL.gon rfl rfl ?_
            refine s_pickT rfl rfl rfl ?_
            refine s_pickF rfl rfl rfl ?_
            refine WpL.nil ?_
            refine Wp.condD rfl (fun h2 => ?_) (fun h2 => ?_)
            · refine Wp.region ?_
              refine s_mv rfl rfl ?_
              first | refine s_add rfl rfl rfl (w_i64 (by omega) (by omega)) ?_ | refine s_addw rfl rfl rfl ?_
              refine s_as rfl rfl ?_
              refine WpL.nil ?_
              refine Wp.region ?_
              refine s_mv rfl rfl ?_
              first | refine s_add rfl rfl rfl (w_i64 (by omega) (by omega)) ?_ | refine s_addw rfl rfl rfl ?_
              refine s_as rfl rfl ?_
              refine WpL.nil ?_
              refine loopD.next (⟨i + 1, n + 1, t ++ s.extract ((i : Int)).toNat ((i : Int) + 1).toNat⟩ : CtX) ?_ ?_ (by repeat (first | exact Top.refl | refine Top.push rfl ?_ | refine Top.drop rfl ?_)) (by repeat (first | exact FrLe.nil | refine FrLe.cons rfl ?_)) ?_
              · have hcb : cntB K1 ((s[i]'hlt).toNat : Int) = true := by first | (exfalso; omega) | exact decide_eq_true (by omega)
                refine ⟨by simp only; omega, by simp only; omega, ?_, ?_, ?_, ?_⟩
                · simp only
                  rw [bsOf_app, htb, bsOf_ext, take_snoc' (bsOf s) (by rw [bsOf_len]; exact hlt), bsOf_at hlt]
                · simp only
                  rw [cnt_take hlt, hct, hcb]
                  simp
                · exact .inr (.inr ⟨_, by simp only; rw [Nat.add_sub_cancel, List.getElem?_eq_getElem (by rw [bsOf_len]; exact hlt), bsOf_at hlt], hcb⟩)
                · simp only [ByteArray.size_append, ByteArray.size_extract]; omega
              · simp only; omega
              · first | exact Ent.refl _ | exact Ent.nil _ | exact Take.ent' (by repeat' constructor) | (repeat (first | exact Ent.refl _ | refine Ent.drop ?_))
            · refine Wp.skip ?_
              refine Wp.region ?_
              refine s_mv rfl rfl ?_
              first | refine s_add rfl rfl rfl (w_i64 (by omega) (by omega)) ?_ | refine s_addw rfl rfl rfl ?_
              refine s_as rfl rfl ?_
              refine WpL.nil ?_
              refine loopD.next (⟨i + 1, n, t ++ s.extract ((i : Int)).toNat ((i : Int) + 1).toNat⟩ : CtX) ?_ ?_ (by repeat (first | exact Top.refl | refine Top.push rfl ?_ | refine Top.drop rfl ?_)) (by repeat (first | exact FrLe.nil | refine FrLe.cons rfl ?_)) ?_
              · have hcb : cntB K1 ((s[i]'hlt).toNat : Int) = false := by first | (exfalso; omega) | exact decide_eq_false (by omega)
                refine ⟨by simp only; omega, by simp only; omega, ?_, ?_, ?_, ?_⟩
                · simp only
                  rw [bsOf_app, htb, bsOf_ext, take_snoc' (bsOf s) (by rw [bsOf_len]; exact hlt), bsOf_at hlt]
                · simp only
                  rw [cnt_take hlt, hct, hcb]
                  simp
                · exact .inr (.inl (by simp only; omega))
                · simp only [ByteArray.size_append, ByteArray.size_extract]; omega
              · simp only; omega
              · first | exact Ent.refl _ | exact Ent.nil _ | exact Take.ent' (by repeat' constructor) | (repeat (first | exact Ent.refl _ | refine Ent.drop ?_))
          · have hg5 := of_decide_eq_false hg5
            refine WpL.goff rfl rfl rfl (by decide) ?_
            refine WpL.goff rfl rfl rfl (by decide) ?_
            refine WpL.goff rfl rfl rfl (by decide) ?_
            refine WpL.gon rfl rfl ?_
            refine s_pickF rfl rfl rfl ?_
            refine s_pickF rfl rfl rfl ?_
            refine WpL.nil ?_
            refine Wp.condF rfl ?_
            refine Wp.skip ?_
            refine Wp.region ?_
            refine s_mv rfl rfl ?_
            first | refine s_add rfl rfl rfl (w_i64 (by omega) (by omega)) ?_ | refine s_addw rfl rfl rfl ?_
            refine s_as rfl rfl ?_
            refine WpL.nil ?_
            refine loopD.next (⟨i + 1, n, t ++ s.extract ((i : Int)).toNat ((i : Int) + 1).toNat⟩ : CtX) ?_ ?_ (by repeat (first | exact Top.refl | refine Top.push rfl ?_ | refine Top.drop rfl ?_)) (by repeat (first | exact FrLe.nil | refine FrLe.cons rfl ?_)) ?_
            · have hcb : cntB K1 ((s[i]'hlt).toNat : Int) = false := by first | (exfalso; omega) | exact decide_eq_false (by omega)
              refine ⟨by simp only; omega, by simp only; omega, ?_, ?_, ?_, ?_⟩
              · simp only
                rw [bsOf_app, htb, bsOf_ext, take_snoc' (bsOf s) (by rw [bsOf_len]; exact hlt), bsOf_at hlt]
              · simp only
                rw [cnt_take hlt, hct, hcb]
                simp
              · exact .inr (.inl (by simp only; omega))
              · simp only [ByteArray.size_append, ByteArray.size_extract]; omega
            · simp only; omega
            · first | exact Ent.refl _ | exact Ent.nil _ | exact Take.ent' (by repeat' constructor) | (repeat (first | exact Ent.refl _ | refine Ent.drop ?_))
      · refine Wp.exit ?_
        refine Wp.seq ?_
        refine Wp.region ?_
        refine s_mv rfl rfl ?_
        refine s_lda (vs := [_, _, _, _]) rfl rfl rfl (by rfl) ?_
        have hlim : t.size ≤ s.size := by omega
        have hnk : (n : Int) = kb := by
          by_cases hii : i = s.size
          · rw [hii, List.take_of_length_le (by rw [bsOf_len]; omega), hbs, wr_cnt (by omega) (by omega) (by omega) px 0 (fun p hp => (hpc p hp).1)] at hct
            omega
          · omega
        have hcf := cut_feed (K := K1) (W := W1) (M := M1) (by omega) (by omega) (by omega) px 0 i (fun p hp => (hpc p hp).1) (by rw [← hbs]; rcases hla with h | h | h; exact .inl h; exact absurd h (by omega); exact .inr h)
        rw [← hbs, hct, ← htb] at hcf
        have htl : ((px.take n).length : Int) = n := by rw [List.length_take]; omega
        have hcut := read_cut (W := W1) (H := H1) hPH hcf (fun p hp => (hpc p (List.mem_of_mem_take hp)).1) (by rw [htl, Int.mul_comm H1 W1]; omega)
        obtain ⟨hrc, hec, hrr⟩ := hcut
        rw [htl, hnk] at hrr
        refine s_callf rfl rfl (by repeat' constructor) (Read_spec t (by omega) K1 W1 H1 M1) ?_
        rintro _ _ ⟨out, ii, x, a, cc, hrd, rfl, rfl⟩
        simp only [List.nil_append, List.cons_append]
        have hq := hrd.trans hrc
        cases hq
        refine s_mv rfl rfl ?_
        refine s_ext rfl rfl rfl ?_
        refine s_ext rfl rfl rfl ?_
        refine s_ext rfl rfl rfl ?_
        refine s_as rfl rfl ?_
        refine s_as rfl rfl ?_
        refine s_as rfl rfl ?_
        refine WpL.nil ?_
        refine Wp.seq ?_
        refine Wp.region ?_
        refine s_lda (vs := [_, _, _, _]) rfl rfl rfl (by rfl) ?_
        refine s_callf rfl rfl (by repeat' constructor) (New_spec _ _ _ _) ?_
        intro v0 m0 hN0
        rcases hN0 with ⟨hP, g, rfl, rfl⟩ | ⟨hP, rfl, rfl⟩
        · simp only [List.nil_append, List.cons_append]
          refine s_mv rfl rfl ?_
          refine s_ext rfl rfl rfl ?_
          refine s_ext rfl rfl rfl ?_
          refine s_as rfl rfl ?_
          refine s_as rfl rfl ?_
          refine WpL.nil ?_
          refine Wp.seq ?_
          refine Wp.seq ?_
          refine Wp.region ?_
          refine s_mv rfl rfl ?_
          refine s_peq rfl Try.underlying36 rfl rfl ?_
          refine s_mv rfl rfl ?_
          refine WpL.gon rfl rfl ?_
          refine s_mv rfl rfl ?_
          refine WpL.gon rfl rfl ?_
          refine s_ne rfl rfl rfl ?_
          refine s_pickF rfl rfl rfl ?_
          refine WpL.nil ?_
          refine Wp.condDF rfl (by simp) ?_
          refine Wp.skip ?_
          refine Wp.seq ?_
          refine Wp.seq ?_
          refine Wp.region ?_
          refine s_as rfl rfl ?_
          refine WpL.nil ?_
          refine Wp.block ?_
          refine Wp.loopD (σ := PdX) (fun x => x.k ≤ t.size ∧ RInv (chK K1) x.k 0 ⟨x.n, x.one, x.row, x.rows, x.last, x.e⟩ ∧ ((bsOf t).take x.k).foldl (fun s c => (putR K1 W1 H1 M1 s c).1) s0R = ⟨x.n, x.one, x.row, x.rows, x.last, x.e⟩) [21, 101, 102, 103, 104, 105, 106, 107, 108, 109, 110, 111] (fun x => [(21, .int .i64 (x.k : Int))]) (fun x => [blk g [.int .i64 K1, .int .i64 W1, .int .i64 H1, .int .i64 M1, stpOf K1, .int .i64 x.n, .slice x.b1 x.one.length x.d1, .slice x.b2 x.row.length x.d2, .int .i64 x.rows, .int .i64 x.last, .int .i64 x.e] 73, own 3 1 x.b1 x.d1 x.one.length (ints x.one), own 62 1 x.b2 x.d2 x.row.length (pxs x.row), blk gH [.int .i64 K1, .int .i64 W1, .int .i64 H1, .int .i64 M1] 23, A0]) (fun x => t.size - x.k) ⟨0, -1, [], [], 0, 0, 0, none, 0, none, 0⟩ ?_ (by repeat (first | exact FrLe.nil | refine FrLe.cons rfl ?_)) ?_ ?_
          · exact ⟨Nat.zero_le _, ⟨by simp; have := chK_pos K1; omega, by simp, by simp, by simp⟩, rfl⟩
          · first | exact Ent.refl _ | exact Ent.nil _ | exact Take.ent' (by repeat' constructor) | (repeat (first | exact Ent.refl _ | refine Ent.drop ?_))
          · rintro ⟨k, pn, one, row, rows, last, e, b1', d1, b2, d2⟩ ⟨hk, hinv, hfo⟩
            dsimp only at hk hinv hfo ⊢
            have hch := chK_pos K1
            have hin := hinv
            obtain ⟨hi1, hi2, hi3, hi4⟩ := hin
            dsimp only at hi1 hi2 hi3 hi4
            refine Wp.seq ?_
            refine Wp.seq ?_
            refine Wp.region ?_
            refine s_mv rfl rfl ?_
            refine s_mv rfl rfl ?_
            refine s_lens rfl Try.underlying9 rfl ?_
            refine s_lt rfl rfl rfl ?_
            refine WpL.nil ?_
            refine Wp.condD rfl (fun h5 => ?_) (fun h5 => ?_)
            · have hlt : k < t.size := by omega
              refine Wp.skip ?_
              refine Wp.seq ?_
              refine Wp.block ?_
              refine Wp.region ?_
              refine s_mv rfl rfl ?_
              refine s_mv rfl rfl ?_
              refine s_mv rfl rfl ?_
              refine s_ixs rfl Try.underlying9 rfl rfl (by omega) (by simp; omega) ?_
              refine s_callf rfl rfl (by repeat' constructor) (Put_spec _ _ _ _ _ _ _ _ _ _ _ _ _ _ _ _ _ rfl (by omega) (by omega) (by omega) (by omega) (u8_lt _) (by omega) (by omega) (by omega) (by omega)) ?_
              rintro _ _ ⟨n2, one2, row2, rows2, last2, e2, out, a1, c1, a2, c2, a3, c3, hs2, rfl, rfl⟩
              simp only [List.nil_append, List.cons_append]
              have hs3 : (({ n := n2, one := one2, row := row2, rows := rows2, last := last2, e := e2 } : RS), out) = putR K1 W1 H1 M1 ⟨pn, one, row, rows, last, e⟩ (((t)[k]'hlt).toNat : Int) := hs2
              have hinv2 := (putR_inv (M := M1) (W := W1) (H := H1) (c := (((t)[k]'hlt).toNat : Int)) hinv).zero
              rw [← hs3] at hinv2
              refine WpL.nil ?_
              refine Wp.region ?_
              refine s_mv rfl rfl ?_
              first | refine s_add rfl rfl rfl (w_i64 (by omega) (by omega)) ?_ | refine s_addw rfl rfl rfl ?_
              refine s_as rfl rfl ?_
              refine WpL.nil ?_
              refine loopD.next (⟨k + 1, n2, one2, row2, rows2, last2, e2, a1, c1, a2, c2⟩ : PdX) ?_ ?_ (by repeat (first | exact Top.refl | refine Top.push rfl ?_ | refine Top.drop rfl ?_)) (by repeat (first | exact FrLe.nil | refine FrLe.cons rfl ?_)) ?_
              · refine ⟨by simp only; omega, hinv2, ?_⟩
                simp only
                rw [take_snoc' (bsOf t) (by rw [bsOf_len]; exact hlt), List.foldl_append, hfo, bsOf_at hlt]
                exact congrArg Prod.fst hs3.symm
              · simp only; omega
              · first | exact Ent.refl _ | exact Ent.nil _ | exact Take.ent' (by repeat' constructor) | (repeat (first | exact Ent.refl _ | refine Ent.drop ?_))
            · have hke : k = t.size := by omega
              rw [hke, List.take_of_length_le (by rw [bsOf_len]; omega)] at hfo
              rw [hfo] at hec hrr
              refine Wp.exit ?_
              refine Wp.seq ?_
              refine Wp.region ?_
              refine s_mv rfl rfl ?_
              refine s_callf rfl rfl (by repeat' constructor) (End_spec _ _ _ _ _ _ _ _ _ _ _ _ _ _ _ _ (by omega) (by omega) (by omega) (by omega) (by omega)) ?_
              rintro _ _ ⟨n2, one2, row2, rows2, last2, e2, out, a1, c1, a2, c2, a3, c3, hs2, rfl, rfl⟩
              simp only [List.nil_append, List.cons_append]
              rw [← hs2] at hec hrr
              dsimp only at hec hrr
              subst hec
              have hq0 := Int.ediv_nonneg hkb.1 (show 0 ≤ W1 by omega)
              have hq1 := Int.ediv_le_self W1 hkb.1
              refine s_mv rfl rfl ?_
              refine s_ext rfl rfl rfl ?_
              refine s_ext rfl rfl rfl ?_
              refine s_as rfl rfl ?_
              refine s_as rfl rfl ?_
              refine WpL.nil ?_
              refine Wp.seq ?_
              apply Wp.draw mixed [⟨117, _, []⟩, ⟨118, _, [0]⟩, ⟨119, _, [1]⟩, ⟨120, _, [2]⟩, ⟨121, _, [3, 2]⟩, ⟨122, _, [2, 4]⟩, ⟨123, _, [5, 2]⟩, ⟨124, _, [6]⟩, ⟨125, _, [7, 6]⟩, ⟨126, _, [6, 8]⟩, ⟨127, _, [9, 6]⟩, ⟨128, _, [10]⟩, ⟨129, _, [11, 10]⟩, ⟨130, _, [10]⟩, ⟨131, _, [10]⟩, ⟨132, _, [14, 10]⟩, ⟨133, _, [13, 15, 10]⟩, ⟨134, _, [12, 16, 10]⟩, ⟨135, _, [10, 17]⟩, ⟨136, _, [18, 12]⟩, ⟨137, _, [19]⟩, ⟨138, _, [19, 20]⟩, ⟨6, _, [21, 20, 0, 1, 2, 3, 4, 5, 6, 7, 8, 9, 10, 11, 12, 13, 14, 15, 16, 17, 18, 19]⟩] rfl
              · refine AllObs.mk ?_ ?_
                · refine s_mv rfl rfl ?_
                  exact obN rfl
                refine AllObs.mk ?_ ?_
                · refine s_eq rfl rfl rfl ?_
                  exact obN rfl
                refine AllObs.mk ?_ ?_
                · refine s_mv rfl rfl ?_
                  exact obN rfl
                refine AllObs.mk ?_ ?_
                · refine WpL.knowT (dj := 119) rfl (by simp) ?_
                  refine WpL.gon rfl rfl ?_
                  refine s_mv rfl rfl ?_
                  exact obN rfl
                refine AllObs.mk ?_ ?_
                · refine WpL.knowT (dj := 119) rfl (by simp) ?_
                  refine WpL.gon rfl rfl ?_
                  refine s_eq rfl rfl rfl ?_
                  exact obN rfl
                refine AllObs.mk ?_ ?_
                · refine WpL.knowT (dj := 119) rfl (by simp) ?_
                  refine s_pickT rfl rfl rfl ?_
                  exact obN rfl
                refine AllObs.mk ?_ ?_
                · refine s_mv rfl rfl ?_
                  exact obN rfl
                refine AllObs.mk ?_ ?_
                · refine WpL.knowT (dj := 123) rfl (by simp) ?_
                  refine WpL.gon rfl rfl ?_
                  refine s_mv rfl rfl ?_
                  exact obN rfl
                refine AllObs.mk ?_ ?_
                · refine WpL.knowT (dj := 123) rfl (by simp) ?_
                  refine WpL.gon rfl rfl ?_
                  refine s_eq rfl rfl rfl ?_
                  exact obN rfl
                refine AllObs.mk ?_ ?_
                · refine WpL.knowT (dj := 123) rfl (by simp) ?_
                  refine s_pickT rfl rfl rfl ?_
                  exact obN rfl
                refine AllObs.mk ?_ ?_
                · refine s_mv rfl rfl ?_
                  exact obN rfl
                refine AllObs.mk ?_ ?_
                · refine WpL.knowT (dj := 127) rfl (by simp) ?_
                  refine WpL.gon rfl rfl ?_
                  refine s_mv rfl rfl ?_
                  exact obN rfl
                refine AllObs.mk ?_ ?_
                · refine WpL.knowT (dj := 127) rfl (by simp) ?_
                  refine WpL.gon rfl rfl ?_
                  refine s_callf rfl rfl (by repeat' constructor) (Rows_spec _ _ _ _ _ _ _ _ _ _ _ _ _ _ _ _) ?_
                  rintro _ _ ⟨rfl, rfl⟩
                  simp only [List.nil_append, List.cons_append]
                  exact WpL.nil ⟨rfl, rfl, rfl, by first | exact Ent.refl _ | exact Ent.nil _ | exact Take.ent' (by repeat' constructor) | (repeat (first | exact Ent.refl _ | refine Ent.drop ?_))⟩
                refine AllObs.mk ?_ ?_
                · refine WpL.knowT (dj := 127) rfl (by simp) ?_
                  refine WpL.gon rfl rfl ?_
                  refine s_mv rfl rfl ?_
                  exact obN rfl
                refine AllObs.mk ?_ ?_
                · refine WpL.knowT (dj := 127) rfl (by simp) ?_
                  refine WpL.gon rfl rfl ?_
                  refine s_fa (o2 := 1) rfl rfl rfl ?_
                  exact obN rfl
                refine AllObs.mk ?_ ?_
                · refine WpL.knowT (dj := 127) rfl (by simp) ?_
                  refine WpL.gon rfl rfl ?_
                  refine s_ld rfl rfl (by rfl) ?_
                  exact obN rfl
                refine AllObs.mk ?_ ?_
                · refine WpL.knowT (dj := 127) rfl (by simp) ?_
                  refine WpL.gon rfl rfl ?_
                  refine s_quo rfl rfl rfl (by omega) (by omega) (w_i64 (by omega) (by omega)) ?_
                  exact obN rfl
                refine AllObs.mk ?_ ?_
                · refine WpL.knowT (dj := 127) rfl (by simp) ?_
                  refine WpL.gon rfl rfl ?_
                  refine s_eq rfl rfl rfl ?_
                  exact obN rfl
                refine AllObs.mk ?_ ?_
                · refine WpL.knowT (dj := 127) rfl (by simp) ?_
                  refine s_pickT rfl rfl rfl ?_
                  exact obN rfl
                refine AllObs.mk ?_ ?_
                · refine s_mv rfl rfl ?_
                  exact obN rfl
                refine AllObs.mk ?_ ?_
                · refine WpL.knowT (dj := 136) rfl (decide_eq_true hrr) ?_
                  refine WpL.gon rfl rfl ?_
                  refine s_callf rfl rfl (by repeat' constructor) (lives_spec) ?_
                  rintro _ _ ⟨rfl, rfl⟩
                  simp only [List.nil_append, List.cons_append]
                  exact WpL.nil ⟨rfl, rfl, rfl, by first | exact Ent.refl _ | exact Ent.nil _ | exact Take.ent' (by repeat' constructor) | (repeat (first | exact Ent.refl _ | refine Ent.drop ?_))⟩
                refine AllObs.mk ?_ ?_
                · refine WpL.knowT (dj := 136) rfl (decide_eq_true hrr) ?_
                  refine s_pickT rfl rfl rfl ?_
                  exact obN rfl
                refine AllObs.mk ?_ ?_
                · refine s_as rfl rfl ?_
                  exact obN rfl
                exact AllObs.nil
              · refine Wp.ret ?_
                apply RetQ.mk
                · exact (Res.one rfl rfl)
                · exact ⟨rfl, rfl⟩
                · first | exact Ent.refl _ | exact Ent.nil _ | exact Take.ent' (by repeat' constructor) | (repeat (first | exact Ent.refl _ | refine Ent.drop ?_))
        · simp only [List.nil_append, List.cons_append]
          exfalso
          exact hP hPH
    · have hg1 := of_decide_eq_false hg1
      refine WpL.goff rfl rfl rfl (by decide) ?_
      refine WpL.goff rfl rfl rfl (by decide) ?_
      refine s_pickF rfl rfl rfl ?_
      refine WpL.nil ?_
      refine Wp.condF rfl ?_
      refine Wp.exit ?_
      refine Wp.seq ?_
      refine Wp.region ?_
      refine s_mv rfl rfl ?_
      refine s_lda (vs := [_, _, _, _]) rfl rfl rfl (by rfl) ?_
      have hlim : t.size ≤ s.size := by omega
      have hnk : (n : Int) = kb := by
        by_cases hii : i = s.size
        · rw [hii, List.take_of_length_le (by rw [bsOf_len]; omega), hbs, wr_cnt (by omega) (by omega) (by omega) px 0 (fun p hp => (hpc p hp).1)] at hct
          omega
        · omega
      have hcf := cut_feed (K := K1) (W := W1) (M := M1) (by omega) (by omega) (by omega) px 0 i (fun p hp => (hpc p hp).1) (by rw [← hbs]; rcases hla with h | h | h; exact .inl h; exact absurd h (by omega); exact .inr h)
      rw [← hbs, hct, ← htb] at hcf
      have htl : ((px.take n).length : Int) = n := by rw [List.length_take]; omega
      have hcut := read_cut (W := W1) (H := H1) hPH hcf (fun p hp => (hpc p (List.mem_of_mem_take hp)).1) (by rw [htl, Int.mul_comm H1 W1]; omega)
      obtain ⟨hrc, hec, hrr⟩ := hcut
      rw [htl, hnk] at hrr
      refine s_callf rfl rfl (by repeat' constructor) (Read_spec t (by omega) K1 W1 H1 M1) ?_
      rintro _ _ ⟨out, ii, x, a, cc, hrd, rfl, rfl⟩
      simp only [List.nil_append, List.cons_append]
      have hq := hrd.trans hrc
      cases hq
      refine s_mv rfl rfl ?_
      refine s_ext rfl rfl rfl ?_
      refine s_ext rfl rfl rfl ?_
      refine s_ext rfl rfl rfl ?_
      refine s_as rfl rfl ?_
      refine s_as rfl rfl ?_
      refine s_as rfl rfl ?_
      refine WpL.nil ?_
      refine Wp.seq ?_
      refine Wp.region ?_
      refine s_lda (vs := [_, _, _, _]) rfl rfl rfl (by rfl) ?_
      refine s_callf rfl rfl (by repeat' constructor) (New_spec _ _ _ _) ?_
      intro v0 m0 hN0
      rcases hN0 with ⟨hP, g, rfl, rfl⟩ | ⟨hP, rfl, rfl⟩
      · simp only [List.nil_append, List.cons_append]
        refine s_mv rfl rfl ?_
        refine s_ext rfl rfl rfl ?_
        refine s_ext rfl rfl rfl ?_
        refine s_as rfl rfl ?_
        refine s_as rfl rfl ?_
        refine WpL.nil ?_
        refine Wp.seq ?_
        refine Wp.seq ?_
        refine Wp.region ?_
        refine s_mv rfl rfl ?_
        refine s_peq rfl Try.underlying36 rfl rfl ?_
        refine s_mv rfl rfl ?_
        refine WpL.gon rfl rfl ?_
        refine s_mv rfl rfl ?_
        refine WpL.gon rfl rfl ?_
        refine s_ne rfl rfl rfl ?_
        refine s_pickF rfl rfl rfl ?_
        refine WpL.nil ?_
        refine Wp.condDF rfl (by simp) ?_
        refine Wp.skip ?_
        refine Wp.seq ?_
        refine Wp.seq ?_
        refine Wp.region ?_
        refine s_as rfl rfl ?_
        refine WpL.nil ?_
        refine Wp.block ?_
        refine Wp.loopD (σ := PdX) (fun x => x.k ≤ t.size ∧ RInv (chK K1) x.k 0 ⟨x.n, x.one, x.row, x.rows, x.last, x.e⟩ ∧ ((bsOf t).take x.k).foldl (fun s c => (putR K1 W1 H1 M1 s c).1) s0R = ⟨x.n, x.one, x.row, x.rows, x.last, x.e⟩) [21, 101, 102, 103, 104, 105, 106, 107, 108, 109, 110, 111] (fun x => [(21, .int .i64 (x.k : Int))]) (fun x => [blk g [.int .i64 K1, .int .i64 W1, .int .i64 H1, .int .i64 M1, stpOf K1, .int .i64 x.n, .slice x.b1 x.one.length x.d1, .slice x.b2 x.row.length x.d2, .int .i64 x.rows, .int .i64 x.last, .int .i64 x.e] 73, own 3 1 x.b1 x.d1 x.one.length (ints x.one), own 62 1 x.b2 x.d2 x.row.length (pxs x.row), blk gH [.int .i64 K1, .int .i64 W1, .int .i64 H1, .int .i64 M1] 23, A0]) (fun x => t.size - x.k) ⟨0, -1, [], [], 0, 0, 0, none, 0, none, 0⟩ ?_ (by repeat (first | exact FrLe.nil | refine FrLe.cons rfl ?_)) ?_ ?_
        · exact ⟨Nat.zero_le _, ⟨by simp; have := chK_pos K1; omega, by simp, by simp, by simp⟩, rfl⟩
        · first | exact Ent.refl _ | exact Ent.nil _ | exact Take.ent' (by repeat' constructor) | (repeat (first | exact Ent.refl _ | refine Ent.drop ?_))
        · rintro ⟨k, pn, one, row, rows, last, e, b1', d1, b2, d2⟩ ⟨hk, hinv, hfo⟩
          dsimp only at hk hinv hfo ⊢
          have hch := chK_pos K1
          have hin := hinv
          obtain ⟨hi1, hi2, hi3, hi4⟩ := hin
          dsimp only at hi1 hi2 hi3 hi4
          refine Wp.seq ?_
          refine Wp.seq ?_
          refine Wp.region ?_
          refine s_mv rfl rfl ?_
          refine s_mv rfl rfl ?_
          refine s_lens rfl Try.underlying9 rfl ?_
          refine s_lt rfl rfl rfl ?_
          refine WpL.nil ?_
          refine Wp.condD rfl (fun h5 => ?_) (fun h5 => ?_)
          · have hlt : k < t.size := by omega
            refine Wp.skip ?_
            refine Wp.seq ?_
            refine Wp.block ?_
            refine Wp.region ?_
            refine s_mv rfl rfl ?_
            refine s_mv rfl rfl ?_
            refine s_mv rfl rfl ?_
            refine s_ixs rfl Try.underlying9 rfl rfl (by omega) (by simp; omega) ?_
            refine s_callf rfl rfl (by repeat' constructor) (Put_spec _ _ _ _ _ _ _ _ _ _ _ _ _ _ _ _ _ rfl (by omega) (by omega) (by omega) (by omega) (u8_lt _) (by omega) (by omega) (by omega) (by omega)) ?_
            rintro _ _ ⟨n2, one2, row2, rows2, last2, e2, out, a1, c1, a2, c2, a3, c3, hs2, rfl, rfl⟩
            simp only [List.nil_append, List.cons_append]
            have hs3 : (({ n := n2, one := one2, row := row2, rows := rows2, last := last2, e := e2 } : RS), out) = putR K1 W1 H1 M1 ⟨pn, one, row, rows, last, e⟩ (((t)[k]'hlt).toNat : Int) := hs2
            have hinv2 := (putR_inv (M := M1) (W := W1) (H := H1) (c := (((t)[k]'hlt).toNat : Int)) hinv).zero
            rw [← hs3] at hinv2
            refine WpL.nil ?_
            refine Wp.region ?_
            refine s_mv rfl rfl ?_
            first | refine s_add rfl rfl rfl (w_i64 (by omega) (by omega)) ?_ | refine s_addw rfl rfl rfl ?_
            refine s_as rfl rfl ?_
            refine WpL.nil ?_
            refine loopD.next (⟨k + 1, n2, one2, row2, rows2, last2, e2, a1, c1, a2, c2⟩ : PdX) ?_ ?_ (by repeat (first | exact Top.refl | refine Top.push rfl ?_ | refine Top.drop rfl ?_)) (by repeat (first | exact FrLe.nil | refine FrLe.cons rfl ?_)) ?_
            · refine ⟨by simp only; omega, hinv2, ?_⟩
              simp only
              rw [take_snoc' (bsOf t) (by rw [bsOf_len]; exact hlt), List.foldl_append, hfo, bsOf_at hlt]
              exact congrArg Prod.fst hs3.symm
            · simp only; omega
            · first | exact Ent.refl _ | exact Ent.nil _ | exact Take.ent' (by repeat' constructor) | (repeat (first | exact Ent.refl _ | refine Ent.drop ?_))
          · have hke : k = t.size := by omega
            rw [hke, List.take_of_length_le (by rw [bsOf_len]; omega)] at hfo
            rw [hfo] at hec hrr
            refine Wp.exit ?_
            refine Wp.seq ?_
            refine Wp.region ?_
            refine s_mv rfl rfl ?_
            refine s_callf rfl rfl (by repeat' constructor) (End_spec _ _ _ _ _ _ _ _ _ _ _ _ _ _ _ _ (by omega) (by omega) (by omega) (by omega) (by omega)) ?_
            rintro _ _ ⟨n2, one2, row2, rows2, last2, e2, out, a1, c1, a2, c2, a3, c3, hs2, rfl, rfl⟩
            simp only [List.nil_append, List.cons_append]
            rw [← hs2] at hec hrr
            dsimp only at hec hrr
            subst hec
            have hq0 := Int.ediv_nonneg hkb.1 (show 0 ≤ W1 by omega)
            have hq1 := Int.ediv_le_self W1 hkb.1
            refine s_mv rfl rfl ?_
            refine s_ext rfl rfl rfl ?_
            refine s_ext rfl rfl rfl ?_
            refine s_as rfl rfl ?_
            refine s_as rfl rfl ?_
            refine WpL.nil ?_
            refine Wp.seq ?_
            apply Wp.draw mixed [⟨117, _, []⟩, ⟨118, _, [0]⟩, ⟨119, _, [1]⟩, ⟨120, _, [2]⟩, ⟨121, _, [3, 2]⟩, ⟨122, _, [2, 4]⟩, ⟨123, _, [5, 2]⟩, ⟨124, _, [6]⟩, ⟨125, _, [7, 6]⟩, ⟨126, _, [6, 8]⟩, ⟨127, _, [9, 6]⟩, ⟨128, _, [10]⟩, ⟨129, _, [11, 10]⟩, ⟨130, _, [10]⟩, ⟨131, _, [10]⟩, ⟨132, _, [14, 10]⟩, ⟨133, _, [13, 15, 10]⟩, ⟨134, _, [12, 16, 10]⟩, ⟨135, _, [10, 17]⟩, ⟨136, _, [18, 12]⟩, ⟨137, _, [19]⟩, ⟨138, _, [19, 20]⟩, ⟨6, _, [21, 20, 0, 1, 2, 3, 4, 5, 6, 7, 8, 9, 10, 11, 12, 13, 14, 15, 16, 17, 18, 19]⟩] rfl
            · refine AllObs.mk ?_ ?_
              · refine s_mv rfl rfl ?_
                exact obN rfl
              refine AllObs.mk ?_ ?_
              · refine s_eq rfl rfl rfl ?_
                exact obN rfl
              refine AllObs.mk ?_ ?_
              · refine s_mv rfl rfl ?_
                exact obN rfl
              refine AllObs.mk ?_ ?_
              · refine WpL.knowT (dj := 119) rfl (by simp) ?_
                refine WpL.gon rfl rfl ?_
                refine s_mv rfl rfl ?_
                exact obN rfl
              refine AllObs.mk ?_ ?_
              · refine WpL.knowT (dj := 119) rfl (by simp) ?_
                refine WpL.gon rfl rfl ?_
                refine s_eq rfl rfl rfl ?_
                exact obN rfl
              refine AllObs.mk ?_ ?_
              · refine WpL.knowT (dj := 119) rfl (by simp) ?_
                refine s_pickT rfl rfl rfl ?_
                exact obN rfl
              refine AllObs.mk ?_ ?_
              · refine s_mv rfl rfl ?_
                exact obN rfl
              refine AllObs.mk ?_ ?_
              · refine WpL.knowT (dj := 123) rfl (by simp) ?_
                refine WpL.gon rfl rfl ?_
                refine s_mv rfl rfl ?_
                exact obN rfl
              refine AllObs.mk ?_ ?_
              · refine WpL.knowT (dj := 123) rfl (by simp) ?_
                refine WpL.gon rfl rfl ?_
                refine s_eq rfl rfl rfl ?_
                exact obN rfl
              refine AllObs.mk ?_ ?_
              · refine WpL.knowT (dj := 123) rfl (by simp) ?_
                refine s_pickT rfl rfl rfl ?_
                exact obN rfl
              refine AllObs.mk ?_ ?_
              · refine s_mv rfl rfl ?_
                exact obN rfl
              refine AllObs.mk ?_ ?_
              · refine WpL.knowT (dj := 127) rfl (by simp) ?_
                refine WpL.gon rfl rfl ?_
                refine s_mv rfl rfl ?_
                exact obN rfl
              refine AllObs.mk ?_ ?_
              · refine WpL.knowT (dj := 127) rfl (by simp) ?_
                refine WpL.gon rfl rfl ?_
                refine s_callf rfl rfl (by repeat' constructor) (Rows_spec _ _ _ _ _ _ _ _ _ _ _ _ _ _ _ _) ?_
                rintro _ _ ⟨rfl, rfl⟩
                simp only [List.nil_append, List.cons_append]
                exact WpL.nil ⟨rfl, rfl, rfl, by first | exact Ent.refl _ | exact Ent.nil _ | exact Take.ent' (by repeat' constructor) | (repeat (first | exact Ent.refl _ | refine Ent.drop ?_))⟩
              refine AllObs.mk ?_ ?_
              · refine WpL.knowT (dj := 127) rfl (by simp) ?_
                refine WpL.gon rfl rfl ?_
                refine s_mv rfl rfl ?_
                exact obN rfl
              refine AllObs.mk ?_ ?_
              · refine WpL.knowT (dj := 127) rfl (by simp) ?_
                refine WpL.gon rfl rfl ?_
                refine s_fa (o2 := 1) rfl rfl rfl ?_
                exact obN rfl
              refine AllObs.mk ?_ ?_
              · refine WpL.knowT (dj := 127) rfl (by simp) ?_
                refine WpL.gon rfl rfl ?_
                refine s_ld rfl rfl (by rfl) ?_
                exact obN rfl
              refine AllObs.mk ?_ ?_
              · refine WpL.knowT (dj := 127) rfl (by simp) ?_
                refine WpL.gon rfl rfl ?_
                refine s_quo rfl rfl rfl (by omega) (by omega) (w_i64 (by omega) (by omega)) ?_
                exact obN rfl
              refine AllObs.mk ?_ ?_
              · refine WpL.knowT (dj := 127) rfl (by simp) ?_
                refine WpL.gon rfl rfl ?_
                refine s_eq rfl rfl rfl ?_
                exact obN rfl
              refine AllObs.mk ?_ ?_
              · refine WpL.knowT (dj := 127) rfl (by simp) ?_
                refine s_pickT rfl rfl rfl ?_
                exact obN rfl
              refine AllObs.mk ?_ ?_
              · refine s_mv rfl rfl ?_
                exact obN rfl
              refine AllObs.mk ?_ ?_
              · refine WpL.knowT (dj := 136) rfl (decide_eq_true hrr) ?_
                refine WpL.gon rfl rfl ?_
                refine s_callf rfl rfl (by repeat' constructor) (lives_spec) ?_
                rintro _ _ ⟨rfl, rfl⟩
                simp only [List.nil_append, List.cons_append]
                exact WpL.nil ⟨rfl, rfl, rfl, by first | exact Ent.refl _ | exact Ent.nil _ | exact Take.ent' (by repeat' constructor) | (repeat (first | exact Ent.refl _ | refine Ent.drop ?_))⟩
              refine AllObs.mk ?_ ?_
              · refine WpL.knowT (dj := 136) rfl (decide_eq_true hrr) ?_
                refine s_pickT rfl rfl rfl ?_
                exact obN rfl
              refine AllObs.mk ?_ ?_
              · refine s_as rfl rfl ?_
                exact obN rfl
              exact AllObs.nil
            · refine Wp.ret ?_
              apply RetQ.mk
              · exact (Res.one rfl rfl)
              · exact ⟨rfl, rfl⟩
              · first | exact Ent.refl _ | exact Ent.nil _ | exact Take.ent' (by repeat' constructor) | (repeat (first | exact Ent.refl _ | refine Ent.drop ?_))
      · simp only [List.nil_append, List.cons_append]
        exfalso
        exact hP hPH

end Go.Proofs.Ytoiecgmnnjipfaa
