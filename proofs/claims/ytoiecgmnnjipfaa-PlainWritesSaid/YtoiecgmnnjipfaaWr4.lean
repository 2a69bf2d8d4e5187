/- Walks. -/
import Derived.Test.YtoiecgmnnjipfaaWr3
namespace Go.Proofs.Ytoiecgmnnjipfaa
open Go.RowKit Go.Shelf

structure NoX where
  k : Nat

set_option maxHeartbeats 8000000 in
theorem PlainWrites_spec (A0 : HP) (a0 : Option Addr) (c0 : Nat) (zs : List Int) (hz : ∀ x ∈ zs, -9223372036854775808 ≤ x ∧ x < 9223372036854775808) (hzl : zs.length ≤ 9223372036854775807) (hA : RdsL [A0] a0 (ints zs)) (K W H M b p : Int) (k0 : -9223372036854775808 ≤ K) (k1 : K < 9223372036854775808) (w0 : -9223372036854775808 ≤ W) (w1 : W < 9223372036854775808) (h0 : -9223372036854775808 ≤ H) (h1 : H < 9223372036854775808) (m0 : -9223372036854775808 ≤ M) (m1 : M < 9223372036854775808) (b0 : -9223372036854775808 ≤ b) (b1 : b < 9223372036854775808) (p0 : 0 ≤ p) (p1 : p < 18446744073709551616) : Fn Try.prog 9 #[.agg #[.int .i64 K, .int .i64 W, .int .i64 H, .int .i64 M], .slice a0 zs.length c0, .int .i64 b, .int .u64 p] [A0] (fun v l => v = .bool true ∧ l = [A0]) := by
  have hPH := head_plain (K := K) (W := W) (H := H) (M := M) (m := 80) (by omega) (by omega)
  refine Fn.intro (vs := [.agg #[.int .i64 K, .int .i64 W, .int .i64 H, .int .i64 M], .slice a0 zs.length c0, .int .i64 b, .int .u64 p]) Try.func9 rfl Try.ntmps9 rfl ?_
  refine Wp.seq ?_
  refine Wp.region ?_
  refine s_box rfl rfl rfl ?_
  intro g1
  refine s_as rfl rfl ?_
  refine WpL.nil ?_
  refine Wp.seq ?_
  refine Wp.region ?_
  refine s_lda (vs := [_, _, _, _]) rfl rfl rfl (by rfl) ?_
  refine s_callf rfl rfl (by repeat' constructor) (Head_spec K W H M 80 k0 k1 w0 w1 h0 h1 m0 m1 (by omega) (by omega)) ?_
  rintro _ _ ⟨rfl, rfl⟩
  simp only [napp]
  generalize hdK K = K1 at hPH ⊢
  have hWb := aroundI_bd (x := W) (m := 80) (by omega)
  have hHb := aroundI_bd (x := H) (m := 80) (by omega)
  generalize hWg : 1 + aroundI W 80 = W1 at hPH ⊢
  generalize hHg : 1 + aroundI H 80 = H1 at hPH ⊢
  generalize gdM (gdK K) M = M1 at hPH ⊢
  have hP3 := hPH
  unfold PlainH MayH at hP3
  obtain ⟨Wn, rfl⟩ := Int.eq_ofNat_of_zero_le (show 0 ≤ W1 by omega)
  have hm3 := Int.emod_nonneg H1 (show (3 : Int) ≠ 0 by omega)
  have hm4 := Int.emod_lt_of_pos H1 (show (0 : Int) < 3 by omega)
  have hPW : ∀ Hn : Nat, (Hn : Int) = 1 + H1 % 3 → PlainH K1 (Wn : Int) (Hn : Int) M1 := fun Hn hh => by unfold PlainH MayH; omega
  refine s_al rfl ?_
  intro g2
  refine s_sta rfl rfl rfl (by rfl) rfl ?_
  refine WpL.nil ?_
  refine Wp.seq ?_
  refine Wp.region ?_
  refine s_fa (o2 := 2) rfl rfl rfl ?_
  refine s_ld rfl rfl (by rfl) ?_
  refine s_rem rfl rfl rfl (by omega) (by omega) ?_
  refine s_add rfl rfl rfl (w_i64 (by omega) (by omega)) ?_
  obtain ⟨Hn, hHn⟩ := Int.eq_ofNat_of_zero_le (show 0 ≤ 1 + H1 % 3 by omega)
  rw [hHn]
  have hPH2 := hPW Hn hHn.symm
  have hWHn : (Wn : Int) * (Hn : Int) = ((Wn * Hn : Nat) : Int) := by push_cast; rfl
  have hWHb : Wn * Hn ≤ 80 * 3 := Nat.mul_le_mul (by omega) (by omega)
  refine s_fa (o2 := 2) rfl rfl rfl ?_
  refine s_st rfl rfl rfl ?_
  refine WpL.nil ?_
  refine Wp.seq ?_
  refine Wp.region ?_
  refine s_mv rfl rfl ?_
  refine s_lda (vs := [_, _, _, _]) rfl rfl rfl (by rfl) ?_
  refine s_callf rfl rfl (by repeat' constructor) (Pixels_spec A0 a0 c0 zs hz hzl hA _ _ _ _ hPH2 (by omega) (by omega)) ?_
  rintro _ _ ⟨px, ap, cp, rfl, hpl, hpc, rfl⟩
  simp only [napp]
  have hpr : ∀ q ∈ px, 0 ≤ q ∧ q < 18446744073709551616 := fun q hq => (hpc q hq).2
  have hwr := wr_good hPH2 hpl hpc
  have hpn : px.length = Wn * Hn := by omega
  have hpos : 0 < Wn * Hn := Nat.mul_pos (by have := hPH2.1; unfold MayH at this; omega) (by have := hPH2.1; unfold MayH at this; omega)
  refine s_as rfl rfl ?_
  refine WpL.nil ?_
  refine Wp.seq ?_
  refine Wp.region ?_
  refine s_mv rfl rfl ?_
  refine s_lda (vs := [_, _, _, _]) rfl rfl rfl (by rfl) ?_
  refine WpL.ownLe (T := 62) (s := 1) (a := ap) (c := cp) (m := px.length) (xs := pxs px) (by repeat' constructor) (fun hcap => ?_)
  refine s_callf rfl rfl (by repeat' constructor) (Write_ok _ ap cp px RdsL.own hpr (by omega) hcap _ _ _ _ hPH2) ?_
  rintro _ _ ⟨s, e, rfl, hw, rfl⟩
  simp only [napp]
  rcases hw with ⟨_, rfl, hbs, hsz⟩ | ⟨hw, _⟩
  rotate_left
  · exact absurd hwr hw
  refine s_mv rfl rfl ?_
  refine s_ext rfl rfl rfl ?_
  refine s_ext rfl rfl rfl ?_
  refine s_as rfl rfl ?_
  refine s_as rfl rfl ?_
  refine WpL.nil ?_
  refine Wp.seq ?_
  refine Wp.region ?_
  refine s_mv rfl rfl ?_
  refine s_lda (vs := [_, _, _, _]) rfl rfl rfl (by rfl) ?_
  refine s_callf rfl rfl (by repeat' constructor) (rWrite_spec _ ap cp px RdsL.own hpr (by omega) _ _ _ _) ?_
  rintro _ _ ⟨s', e', rfl, hw, rfl⟩
  simp only [napp]
  rcases hw with ⟨_, rfl, hbs', hsz'⟩ | ⟨hw, _⟩
  rotate_left
  · exact absurd hwr hw
  obtain rfl : s' = s := bsOf_inj (hbs'.trans hbs.symm)
  refine s_mv rfl rfl ?_
  refine s_ext rfl rfl rfl ?_
  refine s_ext rfl rfl rfl ?_
  refine s_as rfl rfl ?_
  refine s_as rfl rfl ?_
  refine WpL.nil ?_
  refine Wp.seq ?_
  refine Wp.region ?_
  refine s_mv rfl rfl ?_
  refine s_lda (vs := [_, _, _, _]) rfl rfl rfl (by rfl) ?_
  have hP4 := hPH2
  unfold PlainH MayH at hP4
  obtain ⟨jj, hjj⟩ := read_all (W := (Wn : Int)) (H := (Hn : Int)) hPH2 (feed_wr (K := K1) (W := (Wn : Int)) (M := M1) (by omega) (by omega) (by omega) px 0 (fun q hq => (hpc q hq).1)) (fun q hq => (hpc q hq).1) (by rw [hpl, Int.mul_comm])
  have hjw := read_where hPH2 (fun q hq => (hpc q hq).1) hpl hjj
  rw [← hbs] at hjj hjw
  rw [bsOf_len] at hjw
  refine s_callf rfl rfl (by repeat' constructor) (Read_spec s' (by omega) K1 (Wn : Int) (Hn : Int) M1) ?_
  rintro _ _ ⟨out, i, x, a, cc, hrd, rfl, rfl⟩
  simp only [napp]
  have hq := hrd.trans hjj
  cases hq
  refine s_mv rfl rfl ?_
  refine s_ext rfl rfl rfl ?_
  refine s_ext rfl rfl rfl ?_
  refine s_ext rfl rfl rfl ?_
  refine s_as rfl rfl ?_
  refine s_as rfl rfl ?_
  refine s_as rfl rfl ?_
  refine WpL.nil ?_
  refine Wp.seq ?_
  refine Wp.seq ?_
  refine Wp.region ?_
  refine s_mv rfl rfl ?_
  refine s_mv rfl rfl ?_
  refine s_sne rfl rfl rfl ?_
  refine s_mv rfl rfl ?_
  refine WpL.knowF (dj := 57) rfl (by simp) ?_
  refine WpL.gon rfl rfl ?_
  refine s_mv rfl rfl ?_
  refine WpL.gon rfl rfl ?_
  refine s_mv rfl rfl ?_
  refine WpL.gon rfl rfl ?_
  refine s_ne rfl rfl rfl ?_
  refine s_pickF rfl rfl rfl ?_
  refine s_mv rfl rfl ?_
  refine WpL.knowF (dj := 62) rfl (by simp) ?_
  refine WpL.gon rfl rfl ?_
  refine s_mv rfl rfl ?_
  refine WpL.gon rfl rfl ?_
  refine s_ne rfl rfl rfl ?_
  refine s_pickF rfl rfl rfl ?_
  refine s_mv rfl rfl ?_
  refine WpL.knowF (dj := 66) rfl (by simp) ?_
  refine WpL.gon rfl rfl ?_
  refine s_mv rfl rfl ?_
  refine WpL.gon rfl rfl ?_
  refine s_ne rfl rfl rfl ?_
  refine s_pickF rfl rfl rfl ?_
  refine s_mv rfl rfl ?_
  refine WpL.knowF (dj := 70) rfl (by simp) ?_
  refine WpL.gon rfl rfl ?_
  refine s_mv rfl rfl ?_
  refine WpL.gon rfl rfl ?_
  refine s_mv rfl rfl ?_
  refine WpL.gon rfl rfl ?_
  refine s_callf rfl rfl (by repeat' constructor) (SameRow_spec [_, _] _ _ _ _ px px RdsL.own.head RdsL.own.tail (by omega)) ?_
  rintro _ _ ⟨rfl, rfl⟩
  simp only [napp]
  refine WpL.gon rfl rfl ?_
  refine s_notD rfl rfl ?_
  refine s_pickF rfl rfl rfl ?_
  refine s_mv rfl rfl ?_
  refine WpL.knowF (dj := 76) rfl (by simp) ?_
  refine WpL.gon rfl rfl ?_
  refine s_mv rfl rfl ?_
  refine WpL.gon rfl rfl ?_
  refine s_mv rfl rfl ?_
  refine WpL.gon rfl rfl ?_
  refine s_lens rfl Try.underlying9 rfl ?_
  refine WpL.gon rfl rfl ?_
  refine s_ne rfl rfl rfl ?_
  refine WpL.gon rfl rfl ?_
  refine s_mv rfl rfl ?_
  refine WpL.grd rfl rfl rfl (fun hg6 => ?_) (fun hg6 => ?_)
  · have hg6 := of_decide_eq_true hg6
    refine s_mv rfl rfl ?_
    refine WpL.gon rfl rfl ?_
    refine s_mv rfl rfl ?_
    refine WpL.gon rfl rfl ?_
    refine s_lens rfl Try.underlying9 rfl ?_
    refine WpL.gon rfl rfl ?_
    first | refine s_sub rfl rfl rfl (w_i64 (by omega) (by omega)) ?_ | refine s_subw rfl rfl rfl ?_
    refine WpL.gon rfl rfl ?_
    refine s_ne rfl rfl rfl ?_
    refine WpL.gon rfl rfl ?_
    refine s_pickT rfl rfl rfl ?_
    refine s_pickF rfl rfl rfl ?_
    refine WpL.nil ?_
    refine Wp.condDF rfl (by omega) ?_
    refine Wp.skip ?_
    refine Wp.seq ?_
    refine Wp.region ?_
    refine s_mv rfl rfl ?_
    refine s_mv rfl rfl ?_
    refine s_lenl rfl rfl ?_
    refine s_callf rfl rfl (by repeat' constructor) (Around_spec _ _ b0 b1 (by omega)) ?_
    rintro _ _ ⟨rfl, rfl⟩
    simp only [napp]
    have hkb := aroundI_bd (x := b) (m := (px.length : Int)) (by omega)
    obtain ⟨kb, hkb2⟩ := Int.eq_ofNat_of_zero_le hkb.1
    rw [hkb2] at hkb ⊢
    refine s_as rfl rfl ?_
    refine WpL.nil ?_
    refine Wp.seq ?_
    refine Wp.region ?_
    refine s_mv rfl rfl ?_
    refine s_mv rfl rfl ?_
    refine s_mv rfl rfl ?_
    refine s_ixa kb rfl rfl rfl RdsL.own (Take.ent' (by repeat' constructor)) rfl (by omega) (by rw [pxs_len]; omega) ?_
    refine s_sto (T2 := 62) (a := ap) (c := cp) (m := px.length) (xs := pxs px) rfl rfl rfl (by repeat' constructor) (by rw [pxs_len]; omega) ?_
    rw [pxs_set]
    obtain ⟨qx, hqx⟩ : ∃ qx, qx = px.set kb p := ⟨_, rfl⟩
    rw [← hqx]
    have hql : px.length = qx.length := by rw [hqx, List.length_set]
    have hqr : ∀ q ∈ qx, 0 ≤ q ∧ q < 18446744073709551616 := fun q hq => by
      rw [hqx] at hq
      rcases List.mem_or_eq_of_mem_set hq with hq | rfl
      · exact hpr q hq
      · exact ⟨p0, p1⟩
    rw [hql]
    refine WpL.nil ?_
    refine Wp.seq ?_
    refine Wp.region ?_
    refine s_mv rfl rfl ?_
    refine s_lda (vs := [_, _, _, _]) rfl rfl rfl (by rfl) ?_
    refine WpL.ownLe (T := 62) (s := 1) (a := ap) (c := cp) (m := qx.length) (xs := pxs qx) (by repeat' constructor) (fun hcap => ?_)
    refine s_callf rfl rfl (by repeat' constructor) (Write_ok _ ap cp qx RdsL.own hqr (by omega) hcap _ _ _ _ hPH2) ?_
    rintro _ _ ⟨s3, e3, rfl, hw3, rfl⟩
    simp only [napp]
    refine s_mv rfl rfl ?_
    refine s_ext rfl rfl rfl ?_
    refine s_ext rfl rfl rfl ?_
    refine s_as rfl rfl ?_
    refine s_as rfl rfl ?_
    refine WpL.nil ?_
    refine Wp.seq ?_
    refine Wp.region ?_
    refine s_mv rfl rfl ?_
    refine s_lda (vs := [_, _, _, _]) rfl rfl rfl (by rfl) ?_
    refine s_callf rfl rfl (by repeat' constructor) (rWrite_spec _ ap cp qx RdsL.own hqr (by omega) _ _ _ _) ?_
    rintro _ _ ⟨s4, e4, rfl, hw4, rfl⟩
    simp only [napp]
    have hse : s4 = s3 ∧ e4 = e3 := by
      rcases hw3 with ⟨g1, rfl, g2, _⟩ | ⟨g1, rfl, rfl⟩
      · rcases hw4 with ⟨_, rfl, g3, _⟩ | ⟨g3, _⟩
        · exact ⟨bsOf_inj (g3.trans g2.symm), rfl⟩
        · exact absurd g1 g3
      · rcases hw4 with ⟨g3, _⟩ | ⟨_, rfl, rfl⟩
        · exact absurd g3 g1
        · exact ⟨rfl, rfl⟩
    obtain ⟨rfl, rfl⟩ := hse
    clear hw3 hw4
    refine s_mv rfl rfl ?_
    refine s_ext rfl rfl rfl ?_
    refine s_ext rfl rfl rfl ?_
    refine s_as rfl rfl ?_
    refine s_as rfl rfl ?_
    refine WpL.nil ?_
    refine Wp.seq ?_
    apply Wp.drawGN mixed [(4, false)] (by kernel_rfl)
    apply GoR.segF [⟨0, 110, _, [], false⟩, ⟨1, 111, _, [], false⟩, ⟨2, 112, _, [0, 1], false⟩, ⟨3, 113, _, [], false⟩] [] [0, 1, 2, 3] [109, 115, 116, 23, 24] rfl rfl rfl (by kernel_rfl) rfl rfl rfl
    · refine AllF.cons rfl rfl rfl rfl ?_ ?_
      · refine s_mv rfl rfl ?_
        exact obN rfl
      refine AllF.cons rfl rfl rfl rfl ?_ ?_
      · refine s_mv rfl rfl ?_
        exact obN rfl
      refine AllF.cons rfl rfl rfl rfl ?_ ?_
      · refine s_sll_h (H := kb) rfl rfl rfl rfl (by omega) ?_
        exact obN rfl
      refine AllF.cons rfl rfl rfl rfl ?_ ?_
      · refine s_lda (vs := [_, _, _, _]) rfl rfl rfl (by rfl) ?_
        exact obN rfl
      exact AllF.nil
    · rw [show (Value.slice ap kb cp) = Value.slice ap (qx.take kb).length cp from by rw [List.length_take, Nat.min_eq_left (by omega)]]
      refine s_callf rfl rfl (by repeat' constructor) (Write_ok _ ap cp (qx.take kb) (by have := RdsL.own (T := 62) (s := 1) (c := cp) (m := qx.length) (a := ap) (xs := pxs qx); have := this.take kb; simpa [pxs] using this) (fun q hq => hqr q (List.mem_of_mem_take hq)) (by rw [List.length_take]; omega) (by rw [List.length_take]; omega) _ _ _ _ hPH2) ?_
      rintro _ _ ⟨s5, e5, rfl, hw, rfl⟩
      simp only [napp]
      rcases hw with ⟨hw, _⟩ | ⟨_, rfl, rfl⟩
      · exfalso
        have := hw.2.1
        rw [List.length_take] at this
        omega
      refine WpL.nil ⟨rfl, rfl, ?_⟩
      apply GoR.nil [⟨5, 109, _, [4], false⟩, ⟨6, 115, _, [5], false⟩, ⟨7, 116, _, [5], false⟩, ⟨8, 23, _, [0, 1, 2, 3, 4, 5, 6], false⟩, ⟨9, 24, _, [0, 1, 2, 3, 4, 5, 6, 7, 8], false⟩] rfl rfl
      · refine AllF.cons rfl rfl rfl rfl ?_ ?_
        · refine s_mv rfl rfl ?_
          exact obN rfl
        refine AllF.cons rfl rfl rfl rfl ?_ ?_
        · refine s_ext rfl rfl rfl ?_
          exact obN rfl
        refine AllF.cons rfl rfl rfl rfl ?_ ?_
        · refine s_ext rfl rfl rfl ?_
          exact obN rfl
        refine AllF.cons rfl rfl rfl rfl ?_ ?_
        · refine s_as rfl rfl ?_
          exact obN rfl
        refine AllF.cons rfl rfl rfl rfl ?_ ?_
        · refine s_as rfl rfl ?_
          exact obN rfl
        exact AllF.nil
      · refine Wp.seq ?_
        refine Wp.region ?_
        refine s_mv rfl rfl ?_
        refine s_mv rfl rfl ?_
        refine s_seq rfl rfl rfl ?_
        refine s_mv rfl rfl ?_
        refine WpL.knowT (dj := 120) rfl (by simp) ?_
        refine WpL.gon rfl rfl ?_
        refine s_mv rfl rfl ?_
        refine WpL.gon rfl rfl ?_
        refine s_mv rfl rfl ?_
        refine WpL.gon rfl rfl ?_
        refine s_eq rfl rfl rfl ?_
        refine s_pickT rfl rfl rfl ?_
        refine s_mv rfl rfl ?_
        refine WpL.knowT (dj := 125) rfl (by simp) ?_
        refine WpL.gon rfl rfl ?_
        refine s_mv rfl rfl ?_
        refine WpL.gon rfl rfl ?_
        refine s_seq rfl rfl rfl ?_
        refine s_pickT rfl rfl rfl ?_
        refine s_mv rfl rfl ?_
        refine WpL.knowT (dj := 129) rfl (by simp) ?_
        refine WpL.gon rfl rfl ?_
        refine s_mv rfl rfl ?_
        refine WpL.gon rfl rfl ?_
        refine s_eq rfl rfl rfl ?_
        refine s_pickT rfl rfl rfl ?_
        refine s_mv rfl rfl ?_
        refine WpL.knowT (dj := 133) rfl (by simp) ?_
        refine WpL.gon rfl rfl ?_
        refine s_callf rfl rfl (by repeat' constructor) (lives_spec) ?_
        rintro _ _ ⟨rfl, rfl⟩
        simp only [napp]
        refine s_pickT rfl rfl rfl ?_
        refine s_as rfl rfl ?_
        refine WpL.nil ?_
        refine Wp.ret ?_
        apply RetQ.mk
        · exact (Res.one rfl rfl)
        · exact ⟨rfl, rfl⟩
        · first | exact Ent.refl _ | exact Ent.nil _ | exact Take.ent' (by repeat' constructor) | (repeat (first | exact Ent.refl _ | refine Ent.drop ?_))
  · have hg6 := of_decide_eq_false hg6
    refine WpL.goff rfl rfl rfl (by decide) ?_
    refine WpL.goff rfl rfl rfl (by decide) ?_
    refine WpL.goff rfl rfl rfl (by decide) ?_
    refine WpL.goff rfl rfl rfl (by decide) ?_
    refine WpL.gon rfl rfl ?_
    refine s_pickF rfl rfl rfl ?_
    refine s_pickF rfl rfl rfl ?_
    refine WpL.nil ?_
    refine Wp.condF rfl ?_
    refine Wp.skip ?_
    refine Wp.seq ?_
    refine Wp.region ?_
    refine s_mv rfl rfl ?_
    refine s_mv rfl rfl ?_
    refine s_lenl rfl rfl ?_
    refine s_callf rfl rfl (by repeat' constructor) (Around_spec _ _ b0 b1 (by omega)) ?_
    rintro _ _ ⟨rfl, rfl⟩
    simp only [napp]
    have hkb := aroundI_bd (x := b) (m := (px.length : Int)) (by omega)
    obtain ⟨kb, hkb2⟩ := Int.eq_ofNat_of_zero_le hkb.1
    rw [hkb2] at hkb ⊢
    refine s_as rfl rfl ?_
    refine WpL.nil ?_
    refine Wp.seq ?_
    refine Wp.region ?_
    refine s_mv rfl rfl ?_
    refine s_mv rfl rfl ?_
    refine s_mv rfl rfl ?_
    refine s_ixa kb rfl rfl rfl RdsL.own (Take.ent' (by repeat' constructor)) rfl (by omega) (by rw [pxs_len]; omega) ?_
    refine s_sto (T2 := 62) (a := ap) (c := cp) (m := px.length) (xs := pxs px) rfl rfl rfl (by repeat' constructor) (by rw [pxs_len]; omega) ?_
    rw [pxs_set]
    obtain ⟨qx, hqx⟩ : ∃ qx, qx = px.set kb p := ⟨_, rfl⟩
    rw [← hqx]
    have hql : px.length = qx.length := by rw [hqx, List.length_set]
    have hqr : ∀ q ∈ qx, 0 ≤ q ∧ q < 18446744073709551616 := fun q hq => by
      rw [hqx] at hq
      rcases List.mem_or_eq_of_mem_set hq with hq | rfl
      · exact hpr q hq
      · exact ⟨p0, p1⟩
    rw [hql]
    refine WpL.nil ?_
    refine Wp.seq ?_
    refine Wp.region ?_
    refine s_mv rfl rfl ?_
    refine s_lda (vs := [_, _, _, _]) rfl rfl rfl (by rfl) ?_
    refine WpL.ownLe (T := 62) (s := 1) (a := ap) (c := cp) (m := qx.length) (xs := pxs qx) (by repeat' constructor) (fun hcap => ?_)
    refine s_callf rfl rfl (by repeat' constructor) (Write_ok _ ap cp qx RdsL.own hqr (by omega) hcap _ _ _ _ hPH2) ?_
    rintro _ _ ⟨s3, e3, rfl, hw3, rfl⟩
    simp only [napp]
    refine s_mv rfl rfl ?_
    refine s_ext rfl rfl rfl ?_
    refine s_ext rfl rfl rfl ?_
    refine s_as rfl rfl ?_
    refine s_as rfl rfl ?_
    refine WpL.nil ?_
    refine Wp.seq ?_
    refine Wp.region ?_
    refine s_mv rfl rfl ?_
    refine s_lda (vs := [_, _, _, _]) rfl rfl rfl (by rfl) ?_
    refine s_callf rfl rfl (by repeat' constructor) (rWrite_spec _ ap cp qx RdsL.own hqr (by omega) _ _ _ _) ?_
    rintro _ _ ⟨s4, e4, rfl, hw4, rfl⟩
    simp only [napp]
    have hse : s4 = s3 ∧ e4 = e3 := by
      rcases hw3 with ⟨g1, rfl, g2, _⟩ | ⟨g1, rfl, rfl⟩
      · rcases hw4 with ⟨_, rfl, g3, _⟩ | ⟨g3, _⟩
        · exact ⟨bsOf_inj (g3.trans g2.symm), rfl⟩
        · exact absurd g1 g3
      · rcases hw4 with ⟨g3, _⟩ | ⟨_, rfl, rfl⟩
        · exact absurd g3 g1
        · exact ⟨rfl, rfl⟩
    obtain ⟨rfl, rfl⟩ := hse
    clear hw3 hw4
    refine s_mv rfl rfl ?_
    refine s_ext rfl rfl rfl ?_
    refine s_ext rfl rfl rfl ?_
    refine s_as rfl rfl ?_
    refine s_as rfl rfl ?_
    refine WpL.nil ?_
    refine Wp.seq ?_
    apply Wp.drawGN mixed [(4, false)] (by kernel_rfl)
    apply GoR.segF [⟨0, 110, _, [], false⟩, ⟨1, 111, _, [], false⟩, ⟨2, 112, _, [0, 1], false⟩, ⟨3, 113, _, [], false⟩] [] [0, 1, 2, 3] [109, 115, 116, 23, 24] rfl rfl rfl (by kernel_rfl) rfl rfl rfl
    · refine AllF.cons rfl rfl rfl rfl ?_ ?_
      · refine s_mv rfl rfl ?_
        exact obN rfl
      refine AllF.cons rfl rfl rfl rfl ?_ ?_
      · refine s_mv rfl rfl ?_
        exact obN rfl
      refine AllF.cons rfl rfl rfl rfl ?_ ?_
      · refine s_sll_h (H := kb) rfl rfl rfl rfl (by omega) ?_
        exact obN rfl
      refine AllF.cons rfl rfl rfl rfl ?_ ?_
      · refine s_lda (vs := [_, _, _, _]) rfl rfl rfl (by rfl) ?_
        exact obN rfl
      exact AllF.nil
    · rw [show (Value.slice ap kb cp) = Value.slice ap (qx.take kb).length cp from by rw [List.length_take, Nat.min_eq_left (by omega)]]
      refine s_callf rfl rfl (by repeat' constructor) (Write_ok _ ap cp (qx.take kb) (by have := RdsL.own (T := 62) (s := 1) (c := cp) (m := qx.length) (a := ap) (xs := pxs qx); have := this.take kb; simpa [pxs] using this) (fun q hq => hqr q (List.mem_of_mem_take hq)) (by rw [List.length_take]; omega) (by rw [List.length_take]; omega) _ _ _ _ hPH2) ?_
      rintro _ _ ⟨s5, e5, rfl, hw, rfl⟩
      simp only [napp]
      rcases hw with ⟨hw, _⟩ | ⟨_, rfl, rfl⟩
      · exfalso
        have := hw.2.1
        rw [List.length_take] at this
        omega
      refine WpL.nil ⟨rfl, rfl, ?_⟩
      apply GoR.nil [⟨5, 109, _, [4], false⟩, ⟨6, 115, _, [5], false⟩, ⟨7, 116, _, [5], false⟩, ⟨8, 23, _, [0, 1, 2, 3, 4, 5, 6], false⟩, ⟨9, 24, _, [0, 1, 2, 3, 4, 5, 6, 7, 8], false⟩] rfl rfl
      · refine AllF.cons rfl rfl rfl rfl ?_ ?_
        · refine s_mv rfl rfl ?_
          exact obN rfl
        refine AllF.cons rfl rfl rfl rfl ?_ ?_
        · refine s_ext rfl rfl rfl ?_
          exact obN rfl
        refine AllF.cons rfl rfl rfl rfl ?_ ?_
        · refine s_ext rfl rfl rfl ?_
          exact obN rfl
        refine AllF.cons rfl rfl rfl rfl ?_ ?_
        · refine s_as rfl rfl ?_
          exact obN rfl
        refine AllF.cons rfl rfl rfl rfl ?_ ?_
        · refine s_as rfl rfl ?_
          exact obN rfl
        exact AllF.nil
      · refine Wp.seq ?_
        refine Wp.region ?_
        refine s_mv rfl rfl ?_
        refine s_mv rfl rfl ?_
        refine s_seq rfl rfl rfl ?_
        refine s_mv rfl rfl ?_
        refine WpL.knowT (dj := 120) rfl (by simp) ?_
        refine WpL.gon rfl rfl ?_
        refine s_mv rfl rfl ?_
        refine WpL.gon rfl rfl ?_
        refine s_mv rfl rfl ?_
        refine WpL.gon rfl rfl ?_
        refine s_eq rfl rfl rfl ?_
        refine s_pickT rfl rfl rfl ?_
        refine s_mv rfl rfl ?_
        refine WpL.knowT (dj := 125) rfl (by simp) ?_
        refine WpL.gon rfl rfl ?_
        refine s_mv rfl rfl ?_
        refine WpL.gon rfl rfl ?_
        refine s_seq rfl rfl rfl ?_
        refine s_pickT rfl rfl rfl ?_
        refine s_mv rfl rfl ?_
        refine WpL.knowT (dj := 129) rfl (by simp) ?_
        refine WpL.gon rfl rfl ?_
        refine s_mv rfl rfl ?_
        refine WpL.gon rfl rfl ?_
        refine s_eq rfl rfl rfl ?_
        refine s_pickT rfl rfl rfl ?_
        refine s_mv rfl rfl ?_
        refine WpL.knowT (dj := 133) rfl (by simp) ?_
        refine WpL.gon rfl rfl ?_
        refine s_callf rfl rfl (by repeat' constructor) (lives_spec) ?_
        rintro _ _ ⟨rfl, rfl⟩
        simp only [napp]
        refine s_pickT rfl rfl rfl ?_
        refine s_as rfl rfl ?_
        refine WpL.nil ?_
        refine Wp.ret ?_
        apply RetQ.mk
        · exact (Res.one rfl rfl)
        · exact ⟨rfl, rfl⟩
        · first | exact Ent.refl _ | exact Ent.nil _ | exact Take.ent' (by repeat' constructor) | (repeat (first | exact Ent.refl _ | refine Ent.drop ?_))

end Go.Proofs.Ytoiecgmnnjipfaa
