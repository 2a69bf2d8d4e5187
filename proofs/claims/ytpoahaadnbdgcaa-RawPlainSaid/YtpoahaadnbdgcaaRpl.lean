/- Walks. -/
import Derived.Test.YtpoahaadnbdgcaaRw8
namespace Go.Proofs.Ytpoahaadnbdgcaa
open Go.RowKit Go.Shelf

set_option maxHeartbeats 4000000 in
theorem RawPlain_spec (A0 : HP) (a0 : Option Addr) (c0 : Nat) (zs : List Int) (hz : ∀ x ∈ zs, -9223372036854775808 ≤ x ∧ x < 9223372036854775808) (hzl : zs.length ≤ 9223372036854775807) (hA : RdsL [A0] a0 (ints zs)) (K W H M : Int) (k0 : -9223372036854775808 ≤ K) (k1 : K < 9223372036854775808) (w0 : -9223372036854775808 ≤ W) (w1 : W < 9223372036854775808) (h0 : -9223372036854775808 ≤ H) (h1 : H < 9223372036854775808) (m0 : -9223372036854775808 ≤ M) (m1 : M < 9223372036854775808) : Fn Try.prog 3 #[.agg #[.int .i64 K, .int .i64 W, .int .i64 H, .int .i64 M], .slice a0 zs.length c0] [A0] (fun v l => v = .bool true ∧ l = [A0]) := by
  have hRH := raw9 (K := K) (W := W) (H := H) (M := M) (m := 5) (by omega) (by omega)
  refine Fn.intro (vs := [.agg #[.int .i64 K, .int .i64 W, .int .i64 H, .int .i64 M], .slice a0 zs.length c0]) Try.func3 rfl Try.ntmps3 rfl ?_
  refine Wp.seq ?_
  refine Wp.region ?_
  refine s_box rfl rfl rfl ?_
  intro g1
  refine s_as rfl rfl ?_
  refine WpL.nil ?_
  refine Wp.seq ?_
  refine Wp.region ?_
  refine s_lda (vs := [_, _, _, _]) rfl rfl rfl (by rfl) ?_
  refine s_callf rfl rfl (by repeat' constructor) (Head9_spec K W H M 5 k0 k1 w0 w1 h0 h1 m0 m1 (by omega) (by omega)) ?_
  rintro _ _ ⟨rfl, rfl⟩
  simp only [napp]
  generalize hKg : hd9 K = K1 at hRH ⊢
  have hWb := aroundI_bd (x := W) (m := 5) (by omega)
  have hHb := aroundI_bd (x := H) (m := 5) (by omega)
  generalize hWg : 1 + aroundI W 5 = W1 at hRH ⊢
  generalize hHg : 1 + aroundI H 5 = H1 at hRH ⊢
  generalize gdM (gdK K) M = M1 at hRH ⊢
  have hRb := hRH.bd
  obtain ⟨Wn, rfl⟩ := Int.eq_ofNat_of_zero_le (show 0 ≤ W1 by omega)
  obtain ⟨Hn, rfl⟩ := Int.eq_ofNat_of_zero_le (show 0 ≤ H1 by omega)
  have hPP : PlainH (K1 - 3) (Wn : Int) (Hn : Int) M1 := by unfold PlainH MayH; omega
  have hWHn : (Wn : Int) * (Hn : Int) = ((Wn * Hn : Nat) : Int) := by push_cast; rfl
  have hWHb : Wn * Hn ≤ 5 * 5 := Nat.mul_le_mul (by omega) (by omega)
  refine s_al rfl ?_
  intro g2
  refine s_sta rfl rfl rfl (by rfl) rfl ?_
  refine WpL.nil ?_
  refine Wp.seq ?_
  refine Wp.region ?_
  refine s_lda (vs := [_, _, _, _]) rfl rfl rfl (by rfl) ?_
  refine s_al rfl ?_
  intro g3
  refine s_sta rfl rfl rfl (by rfl) rfl ?_
  refine WpL.nil ?_
  refine Wp.seq ?_
  refine Wp.region ?_
  refine s_fa (o2 := 0) rfl rfl rfl ?_
  refine s_ld rfl rfl (by rfl) ?_
  first | refine s_sub rfl rfl rfl (w_i64 (by omega) (by omega)) ?_ | refine s_subw rfl rfl rfl ?_
  refine s_fa (o2 := 0) rfl rfl rfl ?_
  refine s_st rfl rfl rfl ?_
  refine WpL.nil ?_
  refine Wp.seq ?_
  refine Wp.region ?_
  refine s_mv rfl rfl ?_
  refine s_lda (vs := [_, _, _, _]) rfl rfl rfl (by rfl) ?_
  refine s_callf rfl rfl (by repeat' constructor) (PixelsM_spec A0 a0 c0 zs hz hzl hA K1 (Wn : Int) (Hn : Int) M1 hRH.1 (by omega) (by omega)) ?_
  rintro _ _ ⟨px, ap, cp, rfl, hpl, hpc, rfl⟩
  simp only [napp]
  have hpr : ∀ q ∈ px, 0 ≤ q ∧ q < 18446744073709551616 := fun q hq => (hpc q hq).2
  have hpc3 : ∀ q ∈ px, Can (chK (K1 - 3)) M1 q ∧ 0 ≤ q ∧ q < 18446744073709551616 := fun q hq => by rw [chK_3]; exact hpc q hq
  have hwr := wr_good hPP hpl hpc3
  have hpn : px.length = Wn * Hn := by omega
  have hfit : ∀ p ∈ px, FitP p (chK K1) M1 := fun p hp => by have := hwr.2.2 p hp; rwa [chK_3] at this
  refine s_as rfl rfl ?_
  refine WpL.nil ?_
  refine Wp.seq ?_
  refine Wp.region ?_
  refine s_mv rfl rfl ?_
  refine s_lda (vs := [_, _, _, _]) rfl rfl rfl (by rfl) ?_
  refine WpL.ownLe (T := 46) (s := 1) (a := ap) (c := cp) (m := px.length) (xs := pxs px) (by repeat' constructor) (fun hcap => ?_)
  refine s_callf rfl rfl (by repeat' constructor) (RawWrite_spec _ ap cp px RdsL.own hpr (by omega) K1 Wn Hn M1 hRH hpn hfit) ?_
  rintro _ _ ⟨ab, cb, rfl, hcb, rfl⟩
  simp only [napp]
  refine s_mv rfl rfl ?_
  refine s_ext rfl rfl rfl ?_
  refine s_ext rfl rfl rfl ?_
  refine s_as rfl rfl ?_
  refine s_as rfl rfl ?_
  refine WpL.nil ?_
  refine Wp.seq ?_
  refine Wp.region ?_
  refine s_mv rfl rfl ?_
  refine s_lda (vs := [_, _, _, _]) rfl rfl rfl (by rfl) ?_
  refine s_callf rfl rfl (by repeat' constructor) (Write_ok _ ap cp px RdsL.own hpr (by omega) hcap _ _ _ _ hPP) ?_
  rintro _ _ ⟨s, e, rfl, hw, rfl⟩
  simp only [napp]
  rcases hw with ⟨_, rfl, hbs, hsz⟩ | ⟨hw, _⟩
  rotate_left
  · exact absurd hwr hw
  refine s_mv rfl rfl ?_
  refine s_ext rfl rfl rfl ?_
  refine s_ext rfl rfl rfl ?_
  refine s_as rfl rfl ?_
  refine s_as rfl rfl ?_
  refine WpL.nil ?_
  refine Wp.seq ?_
  refine Wp.region ?_
  refine s_mv rfl rfl ?_
  refine s_lda (vs := [_, _, _, _]) rfl rfl rfl (by rfl) ?_
  have hbl9 := wrRaw_len (K := K1) (w := wideM M1) (wideM_or M1) hpn (fun p hp => by have := can_fit (hfit p hp); omega) Hn (Nat.le_refl _)
  have hst9 := strd_bd (K := K1) (W := Wn) (wideM_or M1) (by omega) (by omega)
  have hsm9 : strd K1 Wn (wideM M1) * Hn ≤ 24576 * 5 := Nat.mul_le_mul hst9.2 (by omega)
  rw [← hbl9] at hsm9
  refine s_callf rfl rfl (by repeat' constructor) (RawRead_spec _ ab cb (wrRaw K1 Wn (wideM M1) px Hn) RdsL.own (wrRaw_bd hRb.2.2.2.1 hRb.2.2.2.2 (fun p hp => (hpc p hp).1)) (by omega) K1 Wn (Hn : Int) M1 hRH) ?_
  rintro _ _ ⟨b0, out, er, ao, co, hb0, hrd, rfl, rfl⟩
  simp only [napp]
  have hbk := raw_back (K := K1) (M := M1) (by omega) (by omega) hRb.2.2.2.2 hpn (fun p hp => (hpc p hp).1) b0 hb0 0
  have hq := hrd.trans hbk
  cases hq
  refine s_mv rfl rfl ?_
  refine s_ext rfl rfl rfl ?_
  refine s_ext rfl rfl rfl ?_
  refine s_as rfl rfl ?_
  refine s_as rfl rfl ?_
  refine WpL.nil ?_
  refine Wp.seq ?_
  refine Wp.region ?_
  refine s_mv rfl rfl ?_
  refine s_lda (vs := [_, _, _, _]) rfl rfl rfl (by rfl) ?_
  obtain ⟨jj, hjj⟩ := read_all (W := (Wn : Int)) (H := (Hn : Int)) hPP (feed_wr (K := K1 - 3) (W := (Wn : Int)) (M := M1) (by omega) (by omega) (fun e => hRb.2.2.2.2 (by omega)) px 0 (fun q hq => (hpc3 q hq).1)) (fun q hq => (hpc3 q hq).1) (by rw [hpl, Int.mul_comm])
  rw [← hbs] at hjj
  refine s_callf rfl rfl (by repeat' constructor) (Read_spec s (by omega) (K1 - 3) (Wn : Int) (Hn : Int) M1) ?_
  rintro _ _ ⟨out2, i2, x2, a2, c2, hrd2, rfl, rfl⟩
  simp only [napp]
  have hq2 := hrd2.trans hjj
  cases hq2
  refine s_mv rfl rfl ?_
  refine s_ext rfl rfl rfl ?_
  refine s_ext rfl rfl rfl ?_
  refine s_ext rfl rfl rfl ?_
  refine s_as rfl rfl ?_
  refine s_as rfl rfl ?_
  refine s_as rfl rfl ?_
  refine WpL.nil ?_
  refine Wp.seq ?_
  refine Wp.region ?_
  refine s_mv rfl rfl ?_
  refine s_eq rfl rfl rfl ?_
  refine s_mv rfl rfl ?_
  refine WpL.knowT (dj := 54) rfl (by simp) ?_
  refine WpL.gon rfl rfl ?_
  refine s_mv rfl rfl ?_
  refine WpL.gon rfl rfl ?_
  refine s_eq rfl rfl rfl ?_
  refine s_pickT rfl rfl rfl ?_
  refine s_mv rfl rfl ?_
  refine WpL.knowT (dj := 58) rfl (by simp) ?_
  refine WpL.gon rfl rfl ?_
  refine s_mv rfl rfl ?_
  refine WpL.gon rfl rfl ?_
  refine s_eq rfl rfl rfl ?_
  refine s_pickT rfl rfl rfl ?_
  refine s_mv rfl rfl ?_
  refine WpL.knowT (dj := 62) rfl (by simp) ?_
  refine WpL.gon rfl rfl ?_
  refine s_mv rfl rfl ?_
  refine WpL.gon rfl rfl ?_
  refine s_eq rfl rfl rfl ?_
  refine s_pickT rfl rfl rfl ?_
  refine s_mv rfl rfl ?_
  refine WpL.knowT (dj := 66) rfl (by simp) ?_
  refine WpL.gon rfl rfl ?_
  refine s_mv rfl rfl ?_
  refine WpL.gon rfl rfl ?_
  refine s_mv rfl rfl ?_
  refine WpL.gon rfl rfl ?_
  refine s_callf rfl rfl (Take.cons (.there .here) (Take.cons .here .nil)) (SameRow_spec [_, _] _ _ _ _ px px RdsL.own.head RdsL.own.tail (by omega)) ?_
  rintro _ _ ⟨rfl, rfl⟩
  simp only [napp]
  simp only [decide_true]
  refine s_pickT rfl rfl rfl ?_
  refine s_mv rfl rfl ?_
  refine WpL.gon rfl rfl ?_
  refine s_mv rfl rfl ?_
  refine WpL.gon rfl rfl ?_
  refine s_mv rfl rfl ?_
  refine WpL.gon rfl rfl ?_
  refine s_callf rfl rfl (by repeat' constructor) (SameRow_spec [_, _] _ _ _ _ px px RdsL.own.head RdsL.own.tail (by omega)) ?_
  rintro _ _ ⟨rfl, rfl⟩
  simp only [napp]
  simp only [decide_true]
  refine s_pickT rfl rfl rfl ?_
  refine s_mv rfl rfl ?_
  refine WpL.gon rfl rfl ?_
  refine s_callf rfl rfl (by repeat' constructor) (lives_spec) ?_
  rintro _ _ ⟨rfl, rfl⟩
  simp only [napp]
  refine s_pickT rfl rfl rfl ?_
  refine s_as rfl rfl ?_
  refine WpL.nil ?_
  refine Wp.ret ?_
  apply RetQ.mk
  · exact (Res.one rfl rfl)
  · exact ⟨rfl, rfl⟩
  · first | exact Ent.refl _ | exact Ent.nil _ | exact Take.ent' (by repeat' constructor) | (repeat (first | exact Ent.refl _ | refine Ent.drop ?_))

end Go.Proofs.Ytpoahaadnbdgcaa
