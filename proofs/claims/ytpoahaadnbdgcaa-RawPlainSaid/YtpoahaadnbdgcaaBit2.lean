/- Walks. -/
import Derived.Test.YtpoahaadnbdgcaaBit
namespace Go.Proofs.Ytpoahaadnbdgcaa
open Go.RowKit Go.Shelf

set_option maxHeartbeats 1000000 in
theorem allF_spec (A0 : HP) (a : Option Addr) (c : Nat) (bs : List Int) (hA : RdsL [A0] a (u8s bs)) (hbs : ∀ x ∈ bs, 0 ≤ x ∧ x ≤ 255) (hbl : bs.length ≤ 1000000000) (gb y : Nat) (J Jx : Nat → List HP → Prop) (hY : ∀ k (_ : k < 8 * bs.length) m, J k m → Yld Try.prog y ([.int .i64 (k : Int), .int .i64 (bitAt bs k)] : List Value).toArray m (rdR J Jx k)) (m0 : List HP) (h0 : J 0 m0) : Fn Try.prog 74 #[.func (.yield y) #[] #[], .pointer (some ⟨gb, 0, none⟩)] (blk gb [.slice a bs.length c] 28 :: A0 :: m0) (fun _ l => ∃ m', (J (8 * bs.length) m' ∨ ∃ k, k < 8 * bs.length ∧ Jx k m') ∧ l = blk gb [.slice a bs.length c] 28 :: A0 :: m') := by
  refine Fn.intro (vs := [.func (.yield y) #[] #[], .pointer (some ⟨gb, 0, none⟩)]) Try.func74 rfl Try.ntmps74 rfl ?_
  refine Wp.seq ?_
  refine Wp.region ?_
  refine s_ld rfl rfl (by rfl) ?_
  refine s_lenl rfl rfl ?_
  refine s_mv rfl rfl ?_
  refine WpL.nil ?_
  refine Wp.block ?_
  refine Wp.loopD (σ := NmX) (fun x => x.k ≤ bs.length ∧ J (8 * x.k) x.m) [3, 4, 5, 6, 9, 10, 11, 12, 13, 14, 15, 16, 17, 18, 19, 20, 21, 22, 23, 24, 25, 26, 27, 28, 29] (fun x => [(9, .int .i64 (x.k : Int))]) (fun x => blk gb [.slice a bs.length c] 28 :: A0 :: x.m) (fun x => bs.length - x.k) ⟨0, m0⟩ ?_ (by repeat (first | exact FrLe.nil | refine FrLe.cons rfl ?_)) ?_ ?_
  · exact ⟨Nat.zero_le _, h0⟩
  · first | exact Ent.refl _ | exact Ent.nil _ | exact Take.ent' (by repeat' constructor) | (repeat (first | exact Ent.refl _ | refine Ent.drop ?_))
  · rintro ⟨k, m1⟩ ⟨hk, hJ⟩
    dsimp only at hk hJ ⊢
    refine Wp.seq ?_
    refine Wp.region ?_
    refine s_lt rfl rfl rfl ?_
    refine WpL.nil ?_
    refine Wp.seq ?_
    refine Wp.condD rfl (fun h1 => ?_) (fun h1 => ?_)
    · have hlt : k < bs.length := by omega
      have hb := hbs _ (List.getElem_mem hlt)
      refine Wp.skip ?_
      refine Wp.seq ?_
      refine Wp.block ?_
      refine Wp.seq ?_
      refine Wp.region ?_
      refine s_mv rfl rfl ?_
      refine s_ixa k rfl rfl rfl hA (by first | exact Take.ent' (by repeat' constructor) | (repeat (first | exact Ent.refl _ | refine Ent.drop ?_))) rfl (by omega) (by rw [u8s_len]; omega) ?_
      refine s_ldx rfl rfl hA (by first | exact Take.ent' (by repeat' constructor) | (repeat (first | exact Ent.refl _ | refine Ent.drop ?_))) (u8s_at bs hlt) ?_
      refine s_as rfl rfl ?_
      refine s_as rfl rfl ?_
      refine WpL.nil ?_
      refine Wp.seq ?_
      refine Wp.region ?_
      refine s_mv rfl rfl ?_
      refine s_callf rfl rfl (by repeat' constructor) (eighth_spec _ hb.1 hb.2) ?_
      rintro _ _ ⟨rfl, rfl⟩
      simp only [napp]
      refine s_mv rfl rfl ?_
      refine WpL.nil ?_
      refine Wp.block ?_
      refine Wp.loopD (σ := JmX) (fun z => z.j ≤ 8 ∧ J (8 * k + z.j) z.m) [5, 6, 16, 17, 18, 19, 20, 21, 22, 23, 24, 25, 26, 27, 28] (fun z => [(16, .int .i64 (z.j : Int))]) (fun z => blk gb [.slice a bs.length c] 28 :: A0 :: z.m) (fun z => 8 - z.j) ⟨0, m1⟩ ?_ (by repeat (first | exact FrLe.nil | refine FrLe.cons rfl ?_)) ?_ ?_
      · exact ⟨Nat.zero_le _, hJ⟩
      · first | exact Ent.refl _ | exact Ent.nil _ | exact Take.ent' (by repeat' constructor) | (repeat (first | exact Ent.refl _ | refine Ent.drop ?_))
      · rintro ⟨j, m2⟩ ⟨hj, hJ2⟩
        dsimp only at hj hJ2 ⊢
        refine Wp.seq ?_
        refine Wp.region ?_
        refine s_lt rfl rfl rfl ?_
        refine WpL.nil ?_
        refine Wp.seq ?_
        refine Wp.condD rfl (fun h3 => ?_) (fun h3 => ?_)
        · have hlj : j < 8 := by omega
          have hY1 := hY (8 * k + j) (by omega) m2 hJ2
          rw [bitAt_at hlt hlj, show (((8 * k + j : Nat)) : Int) = 8 * (k : Int) + (j : Int) by omega] at hY1
          refine Wp.skip ?_
          refine Wp.seq ?_
          refine Wp.block ?_
          refine Wp.seq ?_
          refine Wp.region ?_
          refine s_mv rfl rfl ?_
          refine s_ixav (k := j) rfl rfl rfl rfl (by omega) (eight_at _ hlj) ?_
          refine s_as rfl rfl ?_
          refine s_as rfl rfl ?_
          refine WpL.nil ?_
          refine Wp.seq ?_
          refine Wp.region ?_
          refine s_mv rfl rfl ?_
          refine s_mv rfl rfl ?_
          first | refine s_mul rfl rfl rfl (w_i64 (by omega) (by omega)) ?_ | refine s_mulw rfl rfl rfl ?_
          refine s_mv rfl rfl ?_
          first | refine s_add rfl rfl rfl (w_i64 (by omega) (by omega)) ?_ | refine s_addw rfl rfl rfl ?_
          refine s_mv rfl rfl ?_
          refine s_yield rfl rfl rfl rfl (by repeat (first | exact Take.all | apply Take.skip)) (hY1) ?_
          rintro v m' (⟨rfl, hm'⟩ | ⟨rfl, hm'⟩)
          · simp only [napp]
            refine s_not rfl rfl ?_
            refine WpL.nil ?_
            refine Wp.condF rfl ?_
            refine Wp.skip ?_
            refine Wp.region ?_
            first | refine s_add rfl rfl rfl (w_i64 (by omega) (by omega)) ?_ | refine s_addw rfl rfl rfl ?_
            refine s_mv rfl rfl ?_
            refine WpL.nil ?_
            refine loopD.next (⟨j + 1, m'⟩ : JmX) ?_ ?_ (by repeat (first | exact Top.refl | refine Top.push rfl ?_ | refine Top.drop rfl ?_)) (by repeat (first | exact FrLe.nil | refine FrLe.cons rfl ?_)) ?_
            · exact ⟨by simp only; omega, hm'⟩
            · simp only; omega
            · first | exact Ent.refl _ | exact Ent.nil _ | exact Take.ent' (by repeat' constructor) | (repeat (first | exact Ent.refl _ | refine Ent.drop ?_))
          · simp only [napp]
            refine s_not rfl rfl ?_
            refine WpL.nil ?_
            refine Wp.condT rfl ?_
            refine Wp.ret ?_
            apply RetQ.mk
            · exact (Res.none rfl)
            · exact ⟨m', .inr ⟨_, by omega, hm'⟩, rfl⟩
            · first | exact Ent.refl _ | exact Ent.nil _ | exact Take.ent' (by repeat' constructor) | (repeat (first | exact Ent.refl _ | refine Ent.drop ?_))
        · refine Wp.exit ?_
          refine Wp.region ?_
          first | refine s_add rfl rfl rfl (w_i64 (by omega) (by omega)) ?_ | refine s_addw rfl rfl rfl ?_
          refine s_mv rfl rfl ?_
          refine WpL.nil ?_
          refine loopD.next (⟨k + 1, m2⟩ : NmX) ?_ ?_ (by repeat (first | exact Top.refl | refine Top.push rfl ?_ | refine Top.drop rfl ?_)) (by repeat (first | exact FrLe.nil | refine FrLe.cons rfl ?_)) ?_
          · exact ⟨by simp only; omega, by simp only; rw [show 8 * (k + 1) = 8 * k + j by omega]; exact hJ2⟩
          · simp only; omega
          · first | exact Ent.refl _ | exact Ent.nil _ | exact Take.ent' (by repeat' constructor) | (repeat (first | exact Ent.refl _ | refine Ent.drop ?_))
    · refine Wp.exit ?_
      apply RetQ.nm
      · exact (Res.none rfl)
      · have hke : k = bs.length := by omega
        rw [hke] at hJ
        exact ⟨m1, .inl hJ, rfl⟩
      · first | exact Ent.refl _ | exact Ent.nil _ | exact Take.ent' (by repeat' constructor) | (repeat (first | exact Ent.refl _ | refine Ent.drop ?_))


theorem all_iter (A0 : HP) (a : Option Addr) (c : Nat) (bs : List Int) (hA : RdsL [A0] a (u8s bs)) (hbs : ∀ x ∈ bs, 0 ≤ x ∧ x ≤ 255) (hbl : bs.length ≤ 1000000000) (gb : Nat) :
    Iter Try.prog 74 [.pointer (some ⟨gb, 0, none⟩)] (fun k : Nat => [.int .i64 (k : Int), .int .i64 (bitAt bs k)]) (List.range (8 * bs.length)) [blk gb [.slice a bs.length c] 28, A0] [blk gb [.slice a bs.length c] 28, A0] := by
  intro y J Jx hY m h0
  have hl : (List.range (8 * bs.length)).length = 8 * bs.length := List.length_range
  rw [hl]
  have h := allF_spec A0 a c bs hA hbs hbl gb y J Jx (fun k hk m hJ => by have := hY k (by rw [hl]; exact hk) m hJ; simpa using this) m h0
  exact h.mono fun v l hv => ⟨l, by obtain ⟨m', hm, rfl⟩ := hv; exact ⟨m', hm, rfl⟩, Ent.refl _⟩

theorem all_spec (A0 : HP) (a : Option Addr) (c : Nat) (bs : List Int) : Fn Try.prog 71 #[.slice a bs.length c] [A0] (fun v l => ∃ gb, v = .func (.func 74) #[] #[.pointer (some ⟨gb, 0, none⟩)] ∧ l = [blk gb [.slice a bs.length c] 28, A0]) := by
  refine Fn.intro (vs := [.slice a bs.length c]) Try.func71 rfl Try.ntmps71 rfl ?_
  refine Wp.seq ?_
  refine Wp.region ?_
  refine s_box rfl rfl rfl ?_
  intro g1
  refine s_as rfl rfl ?_
  refine WpL.nil ?_
  refine Wp.seq ?_
  refine Wp.region ?_
  refine s_mkf rfl (fun a hh => evs_map hh _ _ rfl) ?_
  refine s_as rfl rfl ?_
  refine WpL.nil ?_
  refine Wp.ret ?_
  apply RetQ.mk
  · exact (Res.one rfl rfl)
  · exact ⟨_, rfl, rfl⟩
  · first | exact Ent.refl _ | exact Ent.nil _ | exact Take.ent' (by repeat' constructor) | (repeat (first | exact Ent.refl _ | refine Ent.drop ?_))

end Go.Proofs.Ytpoahaadnbdgcaa
