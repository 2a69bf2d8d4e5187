/- Walks. -/
import Derived.Test.YtpoahaadnbdgcaaBit2
namespace Go.Proofs.Ytpoahaadnbdgcaa
open Go.RowKit Go.Shelf

theorem UnpackB_spec (A0 : HP) (a : Option Addr) (c : Nat) (bs : List Int) (hA : RdsL [A0] a (u8s bs)) (hbs : ∀ x ∈ bs, 0 ≤ x ∧ x ≤ 255) (hbl : bs.length ≤ 1000000000) (W : Nat) (hW : 1 ≤ W ∧ W ≤ 4096) (hn : bs.length = (W + 7) / 8) (hc : bs.length ≤ c) : Fn Try.prog 66 #[.slice a bs.length c, .int .i64 (W : Int)] [A0] (fun v l => ∃ a' c', v = .tuple #[.slice a' W c', .int .i64 0] ∧ l = [own 3 1 a' c' W (ints (ubits bs W)), A0]) := by
  refine Fn.intro (vs := [.slice a bs.length c, .int .i64 (W : Int)]) Try.func66 rfl Try.ntmps66 rfl ?_
  refine Wp.seq ?_
  refine Wp.region ?_
  refine s_box rfl rfl rfl ?_
  intro g1
  refine s_as rfl rfl ?_
  refine s_as rfl rfl ?_
  refine WpL.nil ?_
  refine Wp.seq ?_
  refine Wp.region ?_
  refine s_ld rfl rfl (by rfl) ?_
  refine s_callf rfl rfl (by repeat' constructor) (Bytes_spec _ (by omega)) ?_
  rintro _ _ ⟨rfl, rfl⟩
  simp only [napp]
  refine s_as rfl rfl ?_
  refine WpL.nil ?_
  refine Wp.seq ?_
  refine Wp.block ?_
  refine Wp.seq ?_
  refine Wp.region ?_
  refine s_mv rfl rfl ?_
  refine s_eq rfl rfl rfl ?_
  refine s_as rfl rfl ?_
  refine WpL.nil ?_
  refine Wp.condDF rfl (by omega) ?_
  refine Wp.seq ?_
  refine Wp.region ?_
  refine s_mv rfl rfl ?_
  refine s_lenl rfl rfl ?_
  refine s_mv rfl rfl ?_
  refine s_lt rfl rfl rfl ?_
  refine s_as rfl rfl ?_
  refine WpL.nil ?_
  refine Wp.condDF rfl (by omega) ?_
  refine Wp.skip ?_
  refine Wp.seq ?_
  refine Wp.region ?_
  refine s_al rfl ?_
  intro g2
  refine WpL.nil ?_
  refine Wp.seq ?_
  refine Wp.seq ?_
  refine Wp.region ?_
  refine s_mv rfl rfl ?_
  refine s_mv rfl rfl ?_
  refine s_sll_h (H := bs.length) rfl rfl rfl (by omega) (by omega) ?_
  refine s_callf rfl rfl (by repeat' constructor) (all_spec A0 a c bs) ?_
  rintro _ _ ⟨gb, rfl, rfl⟩
  simp only [napp]
  refine WpL.nil ?_
  refine Wp.block ?_
  refine Wp.rangeF (encs := fun k : Nat => [.int .i64 (k : Int), .int .i64 (bitAt bs k)]) (xs := List.range (8 * bs.length)) (own := [blk gb [.slice a bs.length c] 28, A0]) (own' := [blk gb [.slice a bs.length c] 28, A0]) (m0 := [blk g2 [.slice none 0 0] 24, blk g1 [.int .i64 (W : Int)] 3, own 3 1 none 0 0 []]) rfl rfl (all_iter A0 a c bs hA hbs hbl gb) (fun _ => rfl) rfl (fun k m => ∃ a9 c9, m = [blk g2 [.slice a9 (min k W) c9] 24, blk g1 [.int .i64 (W : Int)] 3, own 3 1 a9 c9 (min k W) (ints (ubits bs (min k W)))]) (fun _ _ _ => False) ?_ ?_ ?_ ?_ ?_
  · exact ⟨none, 0, by rw [Nat.zero_min]; rfl⟩
  · simp only [napp]
    exact (Ent.own_nil (T := 3) (s := 1) (Ent.refl _)).trans (Take.ent' (by repeat' constructor))
  · intro y k hk m hm
    obtain ⟨a9, c9, rfl⟩ := hm
    rw [List.getElem_range]
    rw [List.length_range] at hk
    refine Wp.seq ?_
    refine Wp.region ?_
    refine s_as rfl rfl ?_
    refine WpL.nil ?_
    refine Wp.region ?_
    refine s_as rfl rfl ?_
    refine WpL.nil ?_
    refine ⟨rfl, rfl, ?_⟩
    refine Wp.block ?_
    refine Wp.seq ?_
    refine Wp.region ?_
    refine s_mv rfl rfl ?_
    refine s_ld rfl rfl (by rfl) ?_
    refine s_lt rfl rfl rfl ?_
    refine WpL.nil ?_
    refine Wp.condD rfl (fun h3 => ?_) (fun h3 => ?_)
    · rw [Nat.min_eq_left (show k ≤ W by omega)]
      refine Wp.region ?_
      refine s_ld rfl rfl (by rfl) ?_
      refine s_mv rfl rfl ?_
      refine s_bs1 rfl rfl rfl rfl ?_
      intro g3
      refine s_app1 rfl rfl rfl (by repeat' constructor) (by rfl) (by rfl) (by rfl) (by rfl) (by first | omega | (simp only [List.length_append, List.length_cons, List.length_nil] at *; omega)) (by first | omega | (simp only [List.length_append, List.length_cons, List.length_nil] at *; omega)) ?_
      intro a32 c32
      refine s_st rfl rfl rfl ?_
      refine WpL.nil ?_
      rw [ints_snoc, ubits_snoc]
      refine ⟨_, ⟨a32, c32, rfl⟩, ?_⟩
      rw [Nat.min_eq_left (show k + 1 ≤ W by omega)]
      first | exact Ent.refl _ | exact Ent.nil _ | exact Take.ent' (by repeat' constructor) | (repeat (first | exact Ent.refl _ | refine Ent.drop ?_))
    · rw [Nat.min_eq_right (show W ≤ k by omega)]
      refine Wp.skip ?_
      refine ⟨_, ⟨a9, c9, rfl⟩, ?_⟩
      rw [Nat.min_eq_right (show W ≤ k + 1 by omega)]
      first | exact Ent.refl _ | exact Ent.nil _ | exact Take.ent' (by repeat' constructor) | (repeat (first | exact Ent.refl _ | refine Ent.drop ?_))
  · intro q1 m hm
    obtain ⟨a9, c9, rfl⟩ := hm
    rw [List.length_range]
    simp only [napp]
    rw [Nat.min_eq_right (show W ≤ 8 * bs.length by omega)]
    refine Wp.seq ?_
    refine Wp.region ?_
    refine s_ld rfl rfl (by rfl) ?_
    refine s_as rfl rfl ?_
    refine s_as rfl rfl ?_
    refine WpL.nil ?_
    refine Wp.ret ?_
    apply RetQ.mkR [q1] rfl (by repeat' constructor)
    · exact (Res.two rfl rfl rfl)
    · exact ⟨a9, c9, rfl, rfl⟩
    · first | exact Ent.refl _ | exact Ent.nil _ | exact Take.ent' (by repeat' constructor) | (repeat (first | exact Ent.refl _ | refine Ent.drop ?_))
  · exact fun _ _ _ _ _ h => h.elim

end Go.Proofs.Ytpoahaadnbdgcaa
