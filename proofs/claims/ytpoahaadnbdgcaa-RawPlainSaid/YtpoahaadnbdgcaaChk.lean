/- Walks. -/
import Derived.Test.YtpoahaadnbdgcaaBit4
namespace Go.Proofs.Ytpoahaadnbdgcaa
open Go.RowKit Go.Shelf

theorem mul_succ' (k ch : Nat) : (k + 1) * ch = k * ch + ch := by rw [Nat.add_mul, Nat.one_mul]

set_option maxHeartbeats 1000000 in
theorem chunkF_spec (a : Option Addr) (c N ch W : Nat) (hch : 1 ≤ ch) (hN : N = W * ch) (hNc : N ≤ c) (hNb : N ≤ 1000000000) (gs gn y : Nat) (J Jx : Nat → List HP → Prop) (hY : ∀ k (_ : k < W) m, J k m → Yld Try.prog y ([.slice (sla a (k * ch) ((k + 1) * ch) 1) ch ch] : List Value).toArray m (rdR J Jx k)) (m0 : List HP) (h0 : J 0 m0) : Fn Try.prog 72 #[.func (.yield y) #[] #[], .pointer (some ⟨gs, 0, none⟩), .pointer (some ⟨gn, 0, none⟩)] (blk gs [.slice a N c] 24 :: blk gn [.int .i64 (ch : Int)] 3 :: m0) (fun _ l => ∃ m', (J W m' ∨ ∃ k, k < W ∧ Jx k m') ∧ l = blk gs [.slice a N c] 24 :: blk gn [.int .i64 (ch : Int)] 3 :: m') := by
  refine Fn.intro (vs := [.func (.yield y) #[] #[], .pointer (some ⟨gs, 0, none⟩), .pointer (some ⟨gn, 0, none⟩)]) Try.func72 rfl Try.ntmps72 rfl ?_
  refine Wp.seq ?_
  refine Wp.region ?_
  refine s_as rfl rfl ?_
  refine WpL.nil ?_
  refine Wp.block ?_
  refine Wp.loopD (σ := NmX) (fun x => x.k ≤ W ∧ J x.k x.m) [4, 5, 6, 7, 8, 9, 10, 11, 12, 13, 14, 15, 16, 17, 18, 19, 20, 21, 22, 23, 24, 25, 26, 27, 28, 29, 30] (fun x => [(4, .int .i64 ((x.k * ch : Nat) : Int))]) (fun x => blk gs [.slice a N c] 24 :: blk gn [.int .i64 (ch : Int)] 3 :: x.m) (fun x => W - x.k) ⟨0, m0⟩ ?_ (FrLe.cons (by rw [Nat.zero_mul]; rfl) FrLe.nil) ?_ ?_
  · exact ⟨Nat.zero_le _, h0⟩
  · first | exact Ent.refl _ | exact Ent.nil _ | exact Take.ent' (by repeat' constructor) | (repeat (first | exact Ent.refl _ | refine Ent.drop ?_))
  · rintro ⟨k, m1⟩ ⟨hk, hJ⟩
    dsimp only at hk hJ ⊢
    have hkN : k * ch ≤ N := by rw [hN]; exact Nat.mul_le_mul_right _ hk
    refine Wp.seq ?_
    refine Wp.seq ?_
    refine Wp.region ?_
    refine s_mv rfl rfl ?_
    refine s_ld rfl rfl (by rfl) ?_
    refine s_lenl rfl rfl ?_
    refine s_lt rfl rfl rfl ?_
    refine WpL.nil ?_
    refine Wp.condD rfl (fun h1 => ?_) (fun h1 => ?_)
    · have hlt : k < W := by
        rcases Nat.lt_or_ge k W with h | h
        · exact h
        · have := Nat.mul_le_mul_right ch h; omega
      have hkN1 : (k + 1) * ch ≤ N := by rw [hN]; exact Nat.mul_le_mul_right _ hlt
      have hks := mul_succ' k ch
      have hY1 := hY k hlt m1 hJ
      refine Wp.skip ?_
      refine Wp.seq ?_
      refine Wp.block ?_
      refine Wp.seq ?_
      apply Wp.draw mixed [⟨13, _, []⟩, ⟨14, _, []⟩, ⟨15, _, []⟩, ⟨16, _, [1, 2]⟩, ⟨17, _, [3]⟩, ⟨18, _, [0, 4]⟩, ⟨5, _, [5, 0, 1, 2, 3, 4]⟩] rfl
      · refine AllObs.mk ?_ ?_
        · refine s_ld rfl rfl (by rfl) ?_
          exact obN rfl
        refine AllObs.mk ?_ ?_
        · refine s_ld rfl rfl (by rfl) ?_
          exact obN rfl
        refine AllObs.mk ?_ ?_
        · refine s_mv rfl rfl ?_
          exact obN rfl
        refine AllObs.mk ?_ ?_
        · refine s_sll_l (L := k * ch) rfl rfl rfl rfl hkN ?_
          exact obN rfl
        refine AllObs.mk ?_ ?_
        · refine s_lenl rfl rfl ?_
          exact WpL.nil ⟨rfl, rfl, rfl, by first | exact Ent.refl _ | exact Ent.nil _ | exact Take.ent' (by repeat' constructor) | (repeat (first | exact Ent.refl _ | refine Ent.drop ?_))⟩
        refine AllObs.mk ?_ ?_
        · refine s_min2 rfl rfl rfl ?_
          rw [show min (ch : Int) ((N - k * ch : Nat) : Int) = (ch : Int) by omega]
          exact WpL.nil ⟨rfl, rfl, rfl, by first | exact Ent.refl _ | exact Ent.nil _ | exact Take.ent' (by repeat' constructor) | (repeat (first | exact Ent.refl _ | refine Ent.drop ?_))⟩
        refine AllObs.mk ?_ ?_
        · refine s_as rfl rfl ?_
          exact obN rfl
        exact AllObs.nil
      · refine Wp.seq ?_
        refine Wp.region ?_
        refine s_mv rfl rfl ?_
        refine s_ld rfl rfl (by rfl) ?_
        refine s_mv rfl rfl ?_
        refine s_mv rfl rfl ?_
        refine s_mv rfl rfl ?_
        refine s_add rfl rfl rfl (w_i64 (by omega) (by omega)) ?_
        rw [show ((k * ch : Nat) : Int) + (ch : Int) = (((k + 1) * ch : Nat) : Int) by omega]
        refine s_mv rfl rfl ?_
        refine s_mv rfl rfl ?_
        refine s_add rfl rfl rfl (w_i64 (by omega) (by omega)) ?_
        rw [show ((k * ch : Nat) : Int) + (ch : Int) = (((k + 1) * ch : Nat) : Int) by omega]
        refine s_sll_lhm (L := k * ch) (H := (k + 1) * ch) (M := (k + 1) * ch) rfl rfl rfl rfl rfl rfl rfl rfl (by omega) (by omega) (by omega) ?_
        rw [show (k + 1) * ch - k * ch = ch by omega]
        refine s_yield rfl rfl rfl rfl (by repeat (first | exact Take.all | apply Take.skip)) (hY1) ?_
        rintro v m' (⟨rfl, hm'⟩ | ⟨rfl, hm'⟩)
        · simp only [napp]
          refine s_not rfl rfl ?_
          refine WpL.nil ?_
          refine Wp.condF rfl ?_
          refine Wp.skip ?_
          refine Wp.region ?_
          refine s_mv rfl rfl ?_
          refine s_ld rfl rfl (by rfl) ?_
          refine s_add rfl rfl rfl (w_i64 (by omega) (by omega)) ?_
          refine s_as rfl rfl ?_
          refine WpL.nil ?_
          refine loopD.next (⟨k + 1, m'⟩ : NmX) ?_ ?_ (by repeat (first | exact Top.refl | refine Top.push rfl ?_ | refine Top.drop rfl ?_)) (FrLe.cons (by exact congrArg (fun x => some (Value.int .i64 x)) (by rw [mul_succ']; push_cast; rfl)) FrLe.nil) ?_
          · exact ⟨by simp only; omega, hm'⟩
          · simp only; omega
          · first | exact Ent.refl _ | exact Ent.nil _ | exact Take.ent' (by repeat' constructor) | (repeat (first | exact Ent.refl _ | refine Ent.drop ?_))
        · simp only [napp]
          refine s_not rfl rfl ?_
          refine WpL.nil ?_
          refine Wp.condT rfl ?_
          refine Wp.ret ?_
          apply RetQ.mk
          · exact (Res.none rfl)
          · exact ⟨m', .inr ⟨_, hlt, hm'⟩, rfl⟩
          · first | exact Ent.refl _ | exact Ent.nil _ | exact Take.ent' (by repeat' constructor) | (repeat (first | exact Ent.refl _ | refine Ent.drop ?_))
    · refine Wp.exit ?_
      apply RetQ.nm
      · exact (Res.none rfl)
      · have hke : k = W := by
          rcases Nat.lt_or_ge k W with h | h
          · exfalso; have h9 := Nat.mul_le_mul_right ch (show k + 1 ≤ W from h); rw [mul_succ'] at h9; omega
          · omega
        rw [hke] at hJ
        exact ⟨m1, .inl hJ, rfl⟩
      · first | exact Ent.refl _ | exact Ent.nil _ | exact Take.ent' (by repeat' constructor) | (repeat (first | exact Ent.refl _ | refine Ent.drop ?_))


theorem chunk_iter (a : Option Addr) (c N ch W : Nat) (hch : 1 ≤ ch) (hN : N = W * ch) (hNc : N ≤ c) (hNb : N ≤ 1000000000) (gs gn : Nat) :
    Iter Try.prog 72 [.pointer (some ⟨gs, 0, none⟩), .pointer (some ⟨gn, 0, none⟩)] (fun k : Nat => [.slice (sla a (k * ch) ((k + 1) * ch) 1) ch ch]) (List.range W) [blk gs [.slice a N c] 24, blk gn [.int .i64 (ch : Int)] 3] [blk gs [.slice a N c] 24, blk gn [.int .i64 (ch : Int)] 3] := by
  intro y J Jx hY m h0
  have hl : (List.range W).length = W := List.length_range
  rw [hl]
  have h := chunkF_spec a c N ch W hch hN hNc hNb gs gn y J Jx (fun k hk m hJ => by have := hY k (by rw [hl]; exact hk) m hJ; simpa using this) m h0
  exact h.mono fun v l hv => ⟨l, by obtain ⟨m', hm, rfl⟩ := hv; exact ⟨m', hm, rfl⟩, Ent.refl _⟩

theorem chunk_spec (a : Option Addr) (c N ch : Nat) (hch : 1 ≤ ch) : Fn Try.prog 67 #[.slice a N c, .int .i64 (ch : Int)] [] (fun v l => ∃ gs gn, v = .func (.func 72) #[] #[.pointer (some ⟨gs, 0, none⟩), .pointer (some ⟨gn, 0, none⟩)] ∧ l = [blk gs [.slice a N c] 24, blk gn [.int .i64 (ch : Int)] 3]) := by
  refine Fn.intro (vs := [.slice a N c, .int .i64 (ch : Int)]) Try.func67 rfl Try.ntmps67 rfl ?_
  refine Wp.seq ?_
  refine Wp.region ?_
  refine s_box rfl rfl rfl ?_
  intro g1
  refine s_box rfl rfl rfl ?_
  intro g2
  refine s_as rfl rfl ?_
  refine WpL.nil ?_
  refine Wp.seq ?_
  refine Wp.seq ?_
  refine Wp.region ?_
  refine s_ld rfl rfl (by rfl) ?_
  refine s_lt rfl rfl rfl ?_
  refine WpL.nil ?_
  refine Wp.condDF rfl (by omega) ?_
  refine Wp.skip ?_
  refine Wp.seq ?_
  refine Wp.region ?_
  refine s_mkf rfl (fun a hh => evs_map hh _ _ rfl) ?_
  refine s_as rfl rfl ?_
  refine WpL.nil ?_
  refine Wp.ret ?_
  apply RetQ.mk
  · exact (Res.one rfl rfl)
  · exact ⟨_, _, rfl, rfl⟩
  · first | exact Ent.refl _ | exact Ent.nil _ | exact Take.ent' (by repeat' constructor) | (repeat (first | exact Ent.refl _ | refine Ent.drop ?_))

end Go.Proofs.Ytpoahaadnbdgcaa
