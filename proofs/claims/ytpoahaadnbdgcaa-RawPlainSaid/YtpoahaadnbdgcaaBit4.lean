/- Walks. -/
import Derived.Test.YtpoahaadnbdgcaaBit3
namespace Go.Proofs.Ytpoahaadnbdgcaa
open Go.RowKit Go.Shelf

theorem u8s_zero (N : Nat) : List.replicate N (Value.int .u8 0) = u8s (List.replicate N 0) := by simp [u8s]
theorem outB_at (l : List Int) {n i k : Nat} (h : k < n) : (u8s (outB l n i))[k]? = some (.int .u8 (byteAt (l.take i) k)) := by
  rw [u8s_at _ (by rw [outB_len]; exact h)]; simp [outB]

set_option maxHeartbeats 1000000 in
theorem PackB_spec (A0 : HP) (a : Option Addr) (c : Nat) (row : List Int) (hA : RdsL [A0] a (ints row)) (hb : ∀ x ∈ row, bitv x) (h1 : 1 ≤ row.length) (h2 : row.length ≤ 4096) : Fn Try.prog 22 #[.slice a row.length c] [A0] (fun v l => ∃ gB, v = .tuple #[.slice (some ⟨gB, 0, none⟩) ((row.length + 7) / 8) ((row.length + 7) / 8), .int .i64 0] ∧ l = [own 5 1 (some ⟨gB, 0, none⟩) ((row.length + 7) / 8) ((row.length + 7) / 8) (u8s (packB row)), A0]) := by
  refine Fn.intro (vs := [.slice a row.length c]) Try.func22 rfl Try.ntmps22 rfl ?_
  refine Wp.seq ?_
  refine Wp.region ?_
  refine s_as rfl rfl ?_
  refine s_as rfl rfl ?_
  refine WpL.nil ?_
  refine Wp.seq ?_
  refine Wp.seq ?_
  refine Wp.region ?_
  refine s_mv rfl rfl ?_
  refine s_lenl rfl rfl ?_
  refine s_callf rfl rfl (by repeat' constructor) (sized_spec _) ?_
  rintro _ _ ⟨rfl, rfl⟩
  simp only [napp]
  refine s_notD rfl rfl ?_
  refine WpL.nil ?_
  refine Wp.condDF rfl (fun hn => hn (by omega)) ?_
  refine Wp.skip ?_
  refine Wp.seq ?_
  refine Wp.region ?_
  refine s_mv rfl rfl ?_
  refine s_lenl rfl rfl ?_
  refine s_callf rfl rfl (by repeat' constructor) (Bytes_spec _ (by omega)) ?_
  rintro _ _ ⟨rfl, rfl⟩
  simp only [napp]
  refine s_mko ((row.length + 7) / 8) rfl rfl (by omega) (by omega) (by omega) rfl ?_
  intro gB
  rw [u8s_zero, ← outB_zero row]
  refine s_as rfl rfl ?_
  refine WpL.nil ?_
  refine Wp.seq ?_
  refine Wp.seq ?_
  refine Wp.region ?_
  refine s_mv rfl rfl ?_
  refine s_lenl rfl rfl ?_
  refine s_mv rfl rfl ?_
  refine WpL.nil ?_
  refine Wp.block ?_
  refine Wp.loopD (σ := Nat) (fun k => k ≤ row.length) [2, 3, 5, 6, 17, 18, 19, 20, 21, 22, 23, 24, 25, 26, 27, 28, 29, 30, 31, 32, 33, 34, 35, 36, 37, 38, 39, 40, 41] (fun k => [(17, .int .i64 (k : Int))]) (fun k => [own 5 1 (some ⟨gB, 0, none⟩) ((row.length + 7) / 8) ((row.length + 7) / 8) (u8s (outB row ((row.length + 7) / 8) k)), A0]) (fun k => row.length - k) 0 ?_ (by repeat (first | exact FrLe.nil | refine FrLe.cons rfl ?_)) ?_ ?_
  · exact Nat.zero_le _
  · first | exact Ent.refl _ | exact Ent.nil _ | exact Take.ent' (by repeat' constructor) | (repeat (first | exact Ent.refl _ | refine Ent.drop ?_))
  · rintro k hk
    refine Wp.seq ?_
    refine Wp.region ?_
    refine s_lt rfl rfl rfl ?_
    refine WpL.nil ?_
    refine Wp.seq ?_
    refine Wp.condD rfl (fun h2 => ?_) (fun h2 => ?_)
    · have hlt : k < row.length := by omega
      have hbk := hb _ (List.getElem_mem hlt)
      refine Wp.skip ?_
      refine Wp.seq ?_
      refine Wp.block ?_
      refine Wp.seq ?_
      refine Wp.region ?_
      refine s_mv rfl rfl ?_
      refine s_ixa k rfl rfl rfl hA (by first | exact Take.ent' (by repeat' constructor) | (repeat (first | exact Ent.refl _ | refine Ent.drop ?_))) rfl (by omega) (by rw [ints_len]; omega) ?_
      refine s_ldx rfl rfl hA (by first | exact Take.ent' (by repeat' constructor) | (repeat (first | exact Ent.refl _ | refine Ent.drop ?_))) (ints_at row hlt) ?_
      refine s_as rfl rfl ?_
      refine s_as rfl rfl ?_
      refine WpL.nil ?_
      refine Wp.cut (True) [2, 3, 22, 23, 24, 25, 26, 27] ?_ (fun hc3 => ?_)
      · refine Wp.seq ?_
        refine Wp.region ?_
        refine s_mv rfl rfl ?_
        refine s_ne rfl rfl rfl ?_
        refine s_mv rfl rfl ?_
        refine WpL.grd rfl rfl rfl (fun hg1 => ?_) (fun hg1 => ?_)
        · have hg1 := of_decide_eq_true hg1
          refine s_mv rfl rfl ?_
          refine WpL.gon rfl rfl ?_
          refine s_ne rfl rfl rfl ?_
          refine s_pickT rfl rfl rfl ?_
          refine WpL.nil ?_
          refine Wp.condDF rfl (by have := hbk; unfold bitv at this; omega) ?_
          refine Wp.skip ?_
          refine cut_end ?_ (by repeat (first | exact Top.refl | refine Top.push rfl ?_ | refine Top.drop rfl ?_)) (by first | exact Ent.refl _ | exact Ent.nil _ | exact Take.ent' (by repeat' constructor) | (repeat (first | exact Ent.refl _ | refine Ent.drop ?_)))
          exact trivial
        · have hg1 := of_decide_eq_false hg1
          refine WpL.goff rfl rfl rfl (by decide) ?_
          refine s_pickF rfl rfl rfl ?_
          refine WpL.nil ?_
          refine Wp.condF rfl ?_
          refine Wp.skip ?_
          refine cut_end ?_ (by repeat (first | exact Top.refl | refine Top.push rfl ?_ | refine Top.drop rfl ?_)) (by first | exact Ent.refl _ | exact Ent.nil _ | exact Take.ent' (by repeat' constructor) | (repeat (first | exact Ent.refl _ | refine Ent.drop ?_)))
          exact trivial
      · obtain ⟨q, hq⟩ := byteAt_mul hlt
        have hbt := byteAt_bd (l := row.take k) (fun x hx => hb x (List.mem_of_mem_take hx)) (k / 8)
        have hbt2 := byteAt_bd (l := row.take (k + 1)) (fun x hx => hb x (List.mem_of_mem_take hx)) (k / 8)
        have hst := byteAt_step hlt
        have hp0 := two_pos (7 - k % 8)
        have hp1 := two_pos (7 - k % 8 + 1)
        have hp7 : (2 : Int) ^ (7 - k % 8) ≤ 128 := by exact_mod_cast Nat.pow_le_pow_right (show 0 < 2 by decide) (show 7 - k % 8 ≤ 7 by omega)
        have hm0 : 0 ≤ row[k] * 2 ^ (7 - k % 8) ∧ row[k] * 2 ^ (7 - k % 8) ≤ 128 := by
          have := hbk
          unfold bitv at this
          rcases this with e | e <;> rw [e] <;> omega
        have hq0 : 0 ≤ q := by
          rcases Int.lt_or_le q 0 with h | h
          · have := Int.mul_neg_of_neg_of_pos h hp1; omega
          · exact h
        have hor := or_bits (s := 7 - k % 8) hq0 hbk
        rw [← hq] at hor
        apply Wp.drawGN (fB := []) mixed [(13, false)] (by kernel_rfl)
        apply GoR.segF [⟨0, 28, _, [], false⟩, ⟨1, 29, _, [], false⟩, ⟨2, 30, _, [1], false⟩, ⟨3, 31, _, [0, 2], false⟩, ⟨4, 32, _, [3], false⟩, ⟨5, 33, _, [], false⟩, ⟨6, 34, _, [], false⟩, ⟨7, 35, _, [6], false⟩, ⟨8, 36, _, [7], false⟩, ⟨9, 37, _, [5, 8], false⟩, ⟨10, 38, _, [9], false⟩, ⟨11, 39, _, [4, 10], false⟩, ⟨12, 40, _, [0, 1, 2, 3, 4, 5, 6, 7, 8, 9, 10, 11], false⟩] [] [0, 1, 2, 3, 4, 5, 6, 7, 8, 9, 10, 11, 12] [] ⟨_, .nil⟩ rfl rfl rfl (by kernel_rfl) rfl rfl rfl
        · refine AllF.cons rfl rfl rfl rfl ?_ ?_
          · refine s_mv rfl rfl ?_
            exact obN rfl
          refine AllF.cons rfl rfl rfl rfl ?_ ?_
          · refine s_mv rfl rfl ?_
            exact obN rfl
          refine AllF.cons rfl rfl rfl rfl ?_ ?_
          · refine s_quo rfl rfl rfl (by omega) (by omega) (w_i64 (by omega) (by omega)) ?_
            rw [show (k : Int) / 8 = ((k / 8 : Nat) : Int) from rfl]
            exact obN rfl
          refine AllF.cons rfl rfl rfl rfl ?_ ?_
          · refine s_ixa (k / 8) rfl rfl rfl RdsL.own (by first | exact Take.ent' (by repeat' constructor) | (repeat (first | exact Ent.refl _ | refine Ent.drop ?_))) rfl (by omega) (by rw [u8s_len, outB_len]; omega) ?_
            exact obN rfl
          refine AllF.cons rfl rfl rfl rfl ?_ ?_
          · refine s_ldx rfl rfl RdsL.own (by first | exact Take.ent' (by repeat' constructor) | (repeat (first | exact Ent.refl _ | refine Ent.drop ?_))) (outB_at row (by omega)) ?_
            exact obN rfl
          refine AllF.cons rfl rfl rfl rfl ?_ ?_
          · refine s_mv rfl rfl ?_
            exact obN rfl
          refine AllF.cons rfl rfl rfl rfl ?_ ?_
          · refine s_mv rfl rfl ?_
            exact obN rfl
          refine AllF.cons rfl rfl rfl rfl ?_ ?_
          · refine s_rem rfl rfl rfl (by omega) (by omega) ?_
            exact obN rfl
          refine AllF.cons rfl rfl rfl rfl ?_ ?_
          · first | refine s_sub rfl rfl rfl (w_i64 (by omega) (by omega)) ?_ | refine s_subw rfl rfl rfl ?_
            exact obN rfl
          refine AllF.cons rfl rfl rfl rfl ?_ ?_
          · refine s_shl (2 ^ (7 - k % 8)) rfl rfl rfl ⟨by omega, by simp only [IntKind.bits]; omega, by rw [show (7 - (k : Int) % 8).toNat = 7 - k % 8 by omega]⟩ (w_i64 (by omega) (by omega)) ?_
            exact obN rfl
          refine AllF.cons rfl rfl rfl rfl ?_ ?_
          · refine s_cvi rfl Try.underlying3 rfl (w_u8 (by omega) (by omega)) ?_
            exact obN rfl
          refine AllF.cons rfl rfl rfl rfl ?_ ?_
          · refine s_orv (byteAt (row.take k) (k / 8) + row[k] * 2 ^ (7 - k % 8)) rfl rfl rfl ⟨hbt.1, by simp only [IntKind.bits]; omega⟩ ⟨hm0.1, by simp only [IntKind.bits]; omega⟩ hor (w_u8 (by omega) (by omega)) ?_
            exact obN rfl
          refine AllF.cons rfl rfl rfl rfl ?_ ?_
          · refine s_ixa (k / 8) rfl rfl rfl RdsL.own (by first | exact Take.ent' (by repeat' constructor) | (repeat (first | exact Ent.refl _ | refine Ent.drop ?_))) rfl (by omega) (by rw [u8s_len, outB_len]; omega) ?_
            exact obN rfl
          exact AllF.nil
        · refine s_sto rfl rfl rfl (by repeat' constructor) (by rw [u8s_len, outB_len]; omega) ?_
          refine WpL.nil ⟨rfl, rfl, ?_⟩
          apply GoR.nil [] ⟨_, .nil⟩ rfl rfl
          · exact AllF.nil
          · refine Wp.region ?_
            first | refine s_add rfl rfl rfl (w_i64 (by omega) (by omega)) ?_ | refine s_addw rfl rfl rfl ?_
            refine s_mv rfl rfl ?_
            refine WpL.nil ?_
            rw [u8s_set, outB_step hlt (by omega)]
            refine loopD.next (k + 1) ?_ ?_ (by repeat (first | exact Top.refl | refine Top.push rfl ?_ | refine Top.drop rfl ?_)) (by repeat (first | exact FrLe.nil | refine FrLe.cons rfl ?_)) ?_
            · omega
            · omega
            · first | exact Ent.refl _ | exact Ent.nil _ | exact Take.ent' (by repeat' constructor) | (repeat (first | exact Ent.refl _ | refine Ent.drop ?_))
    · have hke : k = row.length := by omega
      rw [hke, outB_all]
      refine Wp.exit ?_
      refine Wp.seq ?_
      refine Wp.region ?_
      refine s_mv rfl rfl ?_
      refine s_as rfl rfl ?_
      refine s_as rfl rfl ?_
      refine WpL.nil ?_
      refine Wp.ret ?_
      apply RetQ.mk
      · exact (Res.two rfl rfl rfl)
      · exact ⟨gB, rfl, rfl⟩
      · first | exact Ent.refl _ | exact Ent.nil _ | exact Take.ent' (by repeat' constructor) | (repeat (first | exact Ent.refl _ | refine Ent.drop ?_))

end Go.Proofs.Ytpoahaadnbdgcaa
