/- Walks. -/
import Derived.Test.YtpoahaadnbdgcaaWr2
namespace Go.Proofs.Ytpoahaadnbdgcaa
open Go.RowKit Go.Shelf


/-- The bytes that end samples: of bits each digit, else each blank. -/
def cntS (K b : Int) : Bool := if K = 1 then !blankB b else blankB b
section
variable {K W H M : Int}
def sgm (ch : Int) (s : RS) : Int := ch * (s.row.length : Int) + (s.one.length : Int)
theorem sgm_sample {ch : Int} (s : RS) (x : Int) (_hc : (s.one.length : Int) < ch) : sgm ch (sampleR ch s x) ≤ sgm ch s + 1 := by
  unfold sgm sampleR sampleS
  split
  · rename_i h
    simp only [List.length_append, List.length_cons, List.length_nil] at h ⊢
    push_cast at h ⊢
    rw [Int.mul_add]
    omega
  · simp only [List.length_append, List.length_cons, List.length_nil]
    push_cast
    omega
theorem sgm_step {s : RS} {c : Int} (hc : (s.one.length : Int) < chK K) (he : (stepR K M s c).2 = 0) : sgm (chK K) (stepR K M s c).1 ≤ sgm (chK K) s + (if cntS K c = true then 1 else 0) := by
  unfold stepR cntS at *
  split
  · rename_i h1
    rw [if_pos h1] at he
    unfold bitR at *
    split
    · simp only; split <;> omega
    · rename_i hb
      rw [if_neg hb] at he
      split
      · rename_i h2; rw [if_pos h2] at he; simp at he
      · have := sgm_sample s (c - 48) hc
        simp only [hb]
        simpa using this
  · rename_i h1
    rw [if_neg h1] at he
    unfold numR at *
    split
    · unfold endsR
      split
      · simp only; omega
      · exact sgm_sample s s.n hc
    · split
      · simp [sgm]
      · split
        · simp [sgm]
        · simp [sgm]
theorem sgm_full {ch : Int} (s : RS) : ch * ((fullR W H s).2.length : Int) + sgm ch (fullR W H s).1 = sgm ch s := by
  unfold fullR sgm
  split
  · simp
  · simp
theorem stepR_e {s : RS} {c : Int} : (stepR K M s c).2 = 0 ∨ (stepR K M s c).2 = 3 ∨ (stepR K M s c).2 = 5 := by
  unfold stepR bitR numR stepN
  repeat' split
  all_goals first | (simp; done) | (simp_all; done) | (exfalso; rename_i h h2; exact h rfl) | (exfalso; rename_i h h2; exact h2 rfl)
theorem readL_cnt : ∀ (bs : List Int) (i : Int) (s : RS) (acc out : List Int) (j : Int) (k : Nat), RInv (chK K) k acc.length s → s.last = 0 → readL K W H M bs i s acc = (out, j, 0) →
    i ≤ j ∧ j ≤ i + bs.length ∧ (j = i + bs.length ∨ chK K * (out.length : Int) ≤ chK K * (acc.length : Int) + sgm (chK K) s + ((bs.take (j - i).toNat).countP (cntS K) : Nat))
  | [], i, s, acc, out, j, k, hi, hl, h => by
    rw [readL] at h
    split at h
    · rename_i h2
      exfalso
      have he : (endR K W H s).1.e = 6 ∨ (endR K W H s).1.last ≠ 2 := by
        unfold endR
        rw [if_neg (by omega)]
        split
        · exact .inl rfl
        · right
          have h4 := (endsR_keep (chK K) s).2.1
          unfold fullR
          split
          · simp only; omega
          · simp only; split <;> omega
      simp only [Prod.mk.injEq] at h
      omega
    · simp only [Prod.mk.injEq] at h
      obtain ⟨_, rfl, _⟩ := h
      simp
  | c :: bs, i, s, acc, out, j, k, hi, hl, h => by
    rw [readL] at h
    have hk := stepR_keep K M s c
    have hinv := putR_inv (M := M) (W := W) (H := H) (c := c) hi
    have hlt := putR_last (K := K) (W := W) (H := H) (M := M) (c := c) hl
    by_cases he : (stepR K M s c).2 = 0
    · have hp : putR K W H M s c = fullR W H (stepR K M s c).1 := by unfold putR; rw [if_neg (by omega), if_neg (by omega)]
      have hg1 := sgm_step (K := K) (M := M) (s := s) (c := c) hi.1 he
      have hg2 := sgm_full (W := W) (H := H) (ch := chK K) (stepR K M s c).1
      rw [← hp] at hg2
      split at h
      · simp only [Prod.mk.injEq] at h
        obtain ⟨rfl, rfl, _⟩ := h
        refine ⟨by omega, by simp only [List.length_cons]; push_cast; omega, .inr ?_⟩
        rw [show (i + 1 - i).toNat = 1 by omega]
        simp only [List.take_succ_cons, List.take_zero, List.countP_cons, List.countP_nil, List.length_append]
        have h0 : 0 ≤ sgm (chK K) (putR K W H M s c).1 := by
          have := (chK_pos K).1
          unfold sgm
          have := Int.mul_nonneg (show 0 ≤ chK K by omega) (Int.natCast_nonneg (putR K W H M s c).1.row.length)
          omega
        push_cast
        rw [Int.mul_add]
        split <;> rename_i hc <;> simp only [hc, if_true, if_false, Bool.false_eq_true] at hg1 <;> omega
      · split at h
        · rename_i h2
          exfalso
          rw [hp] at h2
          unfold fullR at h2
          split at h2
          · rw [hk.2.1] at h2; omega
          · simp only at h2; split at h2 <;> omega
        · rename_i h1 h2
          obtain ⟨r1, r2, r3⟩ := readL_cnt bs (i + 1) (putR K W H M s c).1 (acc ++ (putR K W H M s c).2) out j (k + 1) (by rw [List.length_append]; exact hinv) (by omega) h
          refine ⟨by omega, by simp only [List.length_cons]; push_cast; omega, ?_⟩
          rcases r3 with r3 | r3
          · left; simp only [List.length_cons]; push_cast; omega
          · right
            rw [show (j - i).toNat = (j - (i + 1)).toNat + 1 by omega, List.take_succ_cons, List.countP_cons]
            rw [List.length_append] at r3
            push_cast at r3 ⊢
            rw [Int.mul_add] at r3
            split <;> rename_i hc <;> simp only [hc, if_true, if_false, Bool.false_eq_true] at hg1 <;> omega
    · exfalso
      have hp : putR K W H M s c = (wrongR (stepR K M s c).1 (stepR K M s c).2, []) := by unfold putR; rw [if_neg (by omega), if_pos he]
      rw [hp] at h
      have h3 := stepR_e (K := K) (M := M) (s := s) (c := c)
      rw [if_neg (show ¬ (wrongR (stepR K M s c).1 (stepR K M s c).2).last = 1 from by simp [wrongR]), if_pos (show (wrongR (stepR K M s c).1 (stepR K M s c).2).last = 2 from rfl)] at h
      simp only [Prod.mk.injEq, wrongR] at h
      omega
theorem digs_cnt (n : Nat) : (digs n).countP blankB = 0 := by
  rw [List.countP_eq_zero]
  intro x hx
  have := digs_bd n x hx
  simp only [blankB, decide_eq_true_eq]; omega
theorem joinB_cnt : ∀ xs : List Int, xs ≠ [] → (joinB xs).countP blankB + 1 = xs.length
  | [], h => absurd rfl h
  | [x], _ => by simp [joinB, digs_cnt]
  | x :: y :: xs, _ => by
    have ih := joinB_cnt (y :: xs) (by simp)
    rw [joinB, List.countP_append, digs_cnt, List.countP_cons]
    simp only [List.length_cons] at ih ⊢
    have : blankB 32 = true := by decide
    simp only [this, if_true]
    omega
/-- As many as there are samples. -/
theorem wr_cntS (h1 : 1 ≤ K) (h3 : K ≤ 3) : ∀ (l : List Int) (i : Nat), (∀ p ∈ l, Can (chK K) M p) → (K = 1 → M = 1) → (((wrL K W i l).countP (cntS K) : Nat) : Int) = chK K * (l.length : Int)
  | [], i, _, _ => by simp [wrL]
  | p :: l, i, hc, hM => by
    have ih := wr_cntS h1 h3 l (i + 1) (fun q hq => hc q (by simp [hq])) hM
    obtain ⟨hl, _, hs⟩ := hc p (by simp)
    have hch := chK_pos K
    rw [wrL, List.countP_append]
    have hp : (((pxB K W i p).countP (cntS K) : Nat) : Int) = chK K := by
      unfold pxB
      rw [List.countP_append]
      by_cases hK : K = 1
      · have e1 : chK K = 1 := by rw [hK]; rfl
        rw [e1] at hl ⊢
        match hu : unpackS p, hl with
        | [x], _ =>
          have hx := hs x (by rw [hu]; simp)
          rw [hM hK] at hx
          rw [joinB, digs_one (by omega) (by omega)]
          have c1 : cntS K (48 + x) = true := by
            unfold cntS
            rw [if_pos hK]
            simp [blankB]; omega
          have c2 : cntS K 10 = false := by unfold cntS; rw [if_pos hK]; decide
          simp only [List.countP_cons, c1, if_true, List.countP_nil]
          split <;> simp [c2]
        | [], hl => simp at hl
        | _ :: _ :: _, hl => simp at hl; omega
      · have hf : cntS K = blankB := by funext b; unfold cntS; rw [if_neg hK]
        rw [hf, show nlB K W i = true from decide_eq_true (.inl (by omega)), if_pos rfl]
        have hne : unpackS p ≠ [] := fun e => by rw [e] at hl; simp at hl; omega
        have := joinB_cnt (unpackS p) hne
        have h10 : blankB 10 = true := by decide
        simp only [List.countP_cons, List.countP_nil, h10, if_true]
        push_cast
        omega
    push_cast
    rw [ih, hp, List.length_cons]
    push_cast
    rw [Int.mul_add]
    omega
theorem wr_tail (_h1 : 1 ≤ K) (hW : 1 ≤ W) {l : List Int} {i : Nat} (hne : l ≠ []) (hc : ∀ p ∈ l, Can (chK K) M p) (_hM : K = 1 → M = 1) (hlast : ((i + l.length : Nat) : Int) % W = 0) :
    ∃ A d, wrL K W i l = A ++ [d, 10] ∧ blankB d = false := by
  induction l generalizing i with
  | nil => exact absurd rfl hne
  | cons p l ih =>
    by_cases he : l = []
    · subst he
      obtain ⟨hl, _, hs⟩ := hc p (by simp)
      have hch := chK_pos K
      have hn : nlB K W i = true := by
        refine decide_eq_true (.inr (.inl ?_))
        simp only [List.length_cons, List.length_nil] at hlast
        push_cast at hlast
        have a1 := Int.emod_nonneg (i : Int) (show W ≠ 0 by omega)
        have a2 := Int.emod_lt_of_pos (i : Int) (show 0 < W by omega)
        have a3 : (i : Int) = W * ((i : Int) / W) + (i : Int) % W := (Int.mul_ediv_add_emod _ _).symm
        by_cases hq : (i : Int) % W = W - 1
        · exact hq
        · exfalso
          have : ((i : Int) + 1) % W = (i : Int) % W + 1 := by
            rw [← Int.emod_add_emod]
            exact Int.emod_eq_of_lt (by omega) (by omega)
          omega
      have hj : ∀ xs : List Int, xs ≠ [] → ∃ A d, joinB xs = A ++ [d] ∧ blankB d = false := by
        intro xs
        induction xs with
        | nil => intro h; exact absurd rfl h
        | cons x xs ih2 =>
          intro _
          cases xs with
          | nil =>
            have h5 : (digs x.toNat) ≠ [] := by
              rw [lowD_digs]
              obtain ⟨t, ht⟩ := lowD_head 10 x.toNat
              rw [ht]; simp
            refine ⟨(digs x.toNat).dropLast, (digs x.toNat).getLast h5, ?_, ?_⟩
            · rw [joinB, List.dropLast_concat_getLast]
            · have := digs_bd _ _ (List.getLast_mem h5)
              simp only [blankB, decide_eq_false_iff_not]; omega
          | cons y ys =>
            obtain ⟨A, d, e, hd⟩ := ih2 (by simp)
            exact ⟨digs x.toNat ++ 32 :: A, d, by rw [joinB, e]; simp, hd⟩
      obtain ⟨A, d, e, hd⟩ := hj (unpackS p) (fun e => by rw [e] at hl; simp at hl; omega)
      refine ⟨A, d, ?_, hd⟩
      rw [wrL, wrL, pxB, hn, if_pos rfl, e]
      simp
    · obtain ⟨A, d, e, hd⟩ := ih (i := i + 1) he (fun q hq => hc q (by simp [hq])) (by rw [← hlast]; congr 1; simp only [List.length_cons]; omega)
      exact ⟨pxB K W i p ++ A, d, by rw [wrL, e, List.append_assoc], hd⟩
theorem read_where (hP : PlainH K W H M) {l : List Int} {j : Int} (hc : ∀ p ∈ l, Can (chK K) M p) (hl : (l.length : Int) = W * H) (h : readS K W H M (wrL K W 0 l) = (l, j, 0)) : j = ((wrL K W 0 l).length : Int) ∨ j = ((wrL K W 0 l).length : Int) - 1 := by
  have hP2 := hP.1
  unfold MayH at hP2
  have hK4 := hP.2
  have hch := chK_pos K
  rw [readS, if_pos hP] at h
  obtain ⟨h1, h2, h3⟩ := readL_cnt _ _ _ _ _ _ 0 ⟨by simp [s0R]; omega, by simp [s0R], by simp [s0R], by simp [s0R]⟩ rfl h
  rcases h3 with h3 | h3
  · left; simpa using h3
  · have hne : l ≠ [] := fun e => by
      have := Int.mul_pos (show 0 < W by omega) (show 0 < H by omega)
      rw [e] at hl; simp at hl; omega
    obtain ⟨A, d, he, hd⟩ := wr_tail (K := K) (W := W) (M := M) (i := 0) (by omega) (by omega) hne hc (by omega) (by rw [Nat.zero_add, hl]; exact Int.mul_emod_right W H)
    have hcnt := wr_cntS (K := K) (W := W) (M := M) (by omega) (by omega) l 0 hc (by omega)
    rw [← List.take_append_drop (j - 0).toNat (wrL K W 0 l), List.countP_append] at hcnt
    have hz : ((wrL K W 0 l).drop (j - 0).toNat).countP (cntS K) = 0 := by
      simp only [List.length_nil, sgm, s0R] at h3
      push_cast at hcnt h3
      omega
    rw [List.countP_eq_zero] at hz
    by_cases h5 : (j - 0).toNat + 2 ≤ (wrL K W 0 l).length
    · exfalso
      have hd1 : d ∈ (wrL K W 0 l).drop (j - 0).toNat := by
        rw [he] at h5 ⊢
        simp only [List.length_append, List.length_cons, List.length_nil] at h5
        rw [List.drop_append_of_le_length (by omega)]
        simp
      have hd2 : (10 : Int) ∈ (wrL K W 0 l).drop (j - 0).toNat := by
        rw [he] at h5 ⊢
        simp only [List.length_append, List.length_cons, List.length_nil] at h5
        rw [List.drop_append_of_le_length (by omega)]
        simp
      have c1 := hz d hd1
      have c2 := hz 10 hd2
      unfold cntS at c1 c2
      by_cases hK : K = 1
      · rw [if_pos hK, hd] at c1; simp at c1
      · rw [if_neg hK] at c2; exact c2 (by decide)
    · omega
end

end Go.Proofs.Ytpoahaadnbdgcaa
