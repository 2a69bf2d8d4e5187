/- Walks. -/
import Derived.Test.YtpoahaadnbdgcaaRw7
namespace Go.Proofs.Ytpoahaadnbdgcaa
open Go.RowKit Go.Shelf


theorem RawWrite_spec (A0 : HP) (a0 : Option Addr) (c0 : Nat) (px : List Int) (hA : RdsL [A0] a0 (pxs px)) (hr : ∀ p ∈ px, 0 ≤ p ∧ p < 18446744073709551616) (hc : px.length ≤ c0) (K : Int) (W Hn : Nat) (M : Int) (hR : RawH K (W : Int) (Hn : Int) M) (hpl : px.length = W * Hn) (hfit : ∀ p ∈ px, FitP p (chK K) M) : Fn Try.prog 6 #[.slice a0 px.length c0, .agg #[.int .i64 K, .int .i64 (W : Int), .int .i64 (Hn : Int), .int .i64 M]] [A0] (fun v l => ∃ a c, v = .tuple #[.slice a (wrRaw K W (wideM M) px Hn).length c, .int .i64 0] ∧ (wrRaw K W (wideM M) px Hn).length ≤ c ∧ l = [own 5 1 a c (wrRaw K W (wideM M) px Hn).length (u8s (wrRaw K W (wideM M) px Hn)), A0]) := by
  by_cases h4 : K = 4
  · exact RawWrite_a A0 a0 c0 px hA hr hc K W Hn M hR hpl hfit h4
  · by_cases hM : M ≤ 255
    · exact RawWrite_b A0 a0 c0 px hA hr hc K W Hn M hR hpl hfit h4 hM
    · exact RawWrite_c A0 a0 c0 px hA hr hc K W Hn M hR hpl hfit h4 hM
def hd9 (K : Int) : Int := if gdK K < 4 then gdK K + 3 else gdK K
theorem hd9_bd (K : Int) : 4 ≤ hd9 K ∧ hd9 K ≤ 6 := by have := gdK_bd K; unfold hd9; split <;> omega
theorem raw9 {K W H M m : Int} (hm : 1 ≤ m) (hm2 : m ≤ 4096) : RawH (hd9 K) (1 + aroundI W m) (1 + aroundI H m) (gdM (gdK K) M) := by
  have h1 := gdK_bd K
  have h2 := gdM_bd (gdK K) M
  have h3 := aroundI_bd (x := W) hm
  have h4 := aroundI_bd (x := H) hm
  have h5 : gdK K = 1 ∨ gdK K = 4 → gdM (gdK K) M = 1 := fun h => if_pos h
  unfold RawH MayH hd9
  split <;> omega
theorem wrRaw_bd {K M : Int} {W : Nat} {px : List Int} {n : Nat} (hM : 1 ≤ M ∧ M ≤ 65535) (h4 : K = 4 → M = 1) (hc : ∀ p ∈ px, Can (chK K) M p) : ∀ b ∈ wrRaw K W (wideM M) px n, 0 ≤ b ∧ b ≤ 255 := by
  intro b hb
  obtain ⟨r, hr, hb⟩ := List.mem_flatten.1 hb
  obtain ⟨y, _, rfl⟩ := List.mem_map.1 hr
  have hs : ∀ x ∈ ((px.drop (y * W)).take W).flatMap unpackS, 0 ≤ x ∧ x ≤ M := fun x hx => by
    obtain ⟨p, hp, hx⟩ := List.mem_flatMap.1 hx
    exact (hc p (List.mem_of_mem_drop (List.mem_of_mem_take hp))).2.2 x hx
  unfold rowB at hb
  split at hb
  · rename_i hK
    have := h4 hK
    exact packB_bd (fun x hx => by have := hs x hx; unfold bitv; omega) b hb
  · refine enc_bd (fun x hx => by have := hs x hx; omega) (fun hw x hx => ?_) b hb
    have := hs x hx
    unfold wideM at hw
    split at hw
    · cases hw
    · omega
theorem chK_3 (K : Int) : chK (K - 3) = chK K := by unfold chK; rw [show (K - 3) % 3 = K % 3 by omega]
def liveP : List Int := [281474976710663, 281474976710665]
theorem live_can : ∀ p ∈ liveP, Can (chK 5) 255 p := by
  intro p hp
  simp only [liveP, List.mem_cons, List.not_mem_nil, or_false] at hp
  rcases hp with rfl | rfl <;> exact ⟨by decide +kernel, by decide +kernel, by decide +kernel⟩
theorem live_wr : wrRaw 5 2 (wideM 255) liveP 1 = [7, 9] := by decide +kernel

theorem Head9_spec (K W H M m : Int) (k0 : -9223372036854775808 ≤ K) (k1 : K < 9223372036854775808) (w0 : -9223372036854775808 ≤ W) (w1 : W < 9223372036854775808) (h0 : -9223372036854775808 ≤ H) (h1 : H < 9223372036854775808) (m0 : -9223372036854775808 ≤ M) (m1 : M < 9223372036854775808) (hm : 1 ≤ m) (hm2 : m ≤ 2 ^ 30) : Fn Try.prog 4 #[.agg #[.int .i64 K, .int .i64 W, .int .i64 H, .int .i64 M], .int .i64 m] [] (fun v l => v = .agg #[.int .i64 (hd9 K), .int .i64 (1 + aroundI W m), .int .i64 (1 + aroundI H m), .int .i64 (gdM (gdK K) M)] ∧ l = []) := by
  have hb1 := gdK_bd K
  refine Fn.intro (vs := [.agg #[.int .i64 K, .int .i64 W, .int .i64 H, .int .i64 M], .int .i64 m]) Try.func4 rfl Try.ntmps4 rfl ?_
  refine Wp.seq ?_
  refine Wp.region ?_
  refine s_box rfl rfl rfl ?_
  intro g1
  refine s_al rfl ?_
  intro g2
  refine WpL.nil ?_
  refine Wp.seq ?_
  refine Wp.region ?_
  refine s_lda (vs := [_, _, _, _]) rfl rfl rfl (by rfl) ?_
  refine s_mv rfl rfl ?_
  refine s_callf rfl rfl (by repeat' constructor) (Good_spec _ _ _ _ _ (by omega) (by omega) (by omega) (by omega) (by omega) (by omega) (by omega) (by omega) (by omega) (by omega)) ?_
  rintro _ _ ⟨rfl, rfl⟩
  simp only [napp]
  refine s_al rfl ?_
  intro g3
  refine s_sta rfl rfl rfl (by rfl) rfl ?_
  refine WpL.nil ?_
  refine Wp.seq ?_
  refine Wp.seq ?_
  refine Wp.region ?_
  refine s_fa (o2 := 0) rfl rfl rfl ?_
  refine s_ld rfl rfl (by rfl) ?_
  refine s_lt rfl rfl rfl ?_
  refine WpL.nil ?_
  refine Wp.condD rfl (fun h0 => ?_) (fun h0 => ?_)
  · refine Wp.region ?_
    refine s_fa (o2 := 0) rfl rfl rfl ?_
    refine s_ld rfl rfl (by rfl) ?_
    first | refine s_add rfl rfl rfl (w_i64 (by omega) (by omega)) ?_ | refine s_addw rfl rfl rfl ?_
    refine s_fa (o2 := 0) rfl rfl rfl ?_
    refine s_st rfl rfl rfl ?_
    refine WpL.nil ?_
    refine Wp.seq ?_
    refine Wp.region ?_
    refine s_lda (vs := [_, _, _, _]) rfl rfl rfl (by rfl) ?_
    refine s_sta rfl rfl rfl (by rfl) rfl ?_
    refine WpL.nil ?_
    refine Wp.ret ?_
    apply RetQ.mk
    · exact (RetQ.cell rfl rfl (by rfl))
    · exact ⟨by rw [hd9, if_pos h0], rfl⟩
    · first | exact Ent.refl _ | exact Ent.nil _ | exact Take.ent' (by repeat' constructor) | (repeat (first | exact Ent.refl _ | refine Ent.drop ?_))
  · refine Wp.skip ?_
    refine Wp.seq ?_
    refine Wp.region ?_
    refine s_lda (vs := [_, _, _, _]) rfl rfl rfl (by rfl) ?_
    refine s_sta rfl rfl rfl (by rfl) rfl ?_
    refine WpL.nil ?_
    refine Wp.ret ?_
    apply RetQ.mk
    · exact (RetQ.cell rfl rfl (by rfl))
    · exact ⟨by rw [hd9, if_neg h0], rfl⟩
    · first | exact Ent.refl _ | exact Ent.nil _ | exact Take.ent' (by repeat' constructor) | (repeat (first | exact Ent.refl _ | refine Ent.drop ?_))

theorem lives_spec  : Fn Try.prog 11 #[] [] (fun v l => v = .bool true ∧ l = []) := by
  refine Fn.intro (vs := []) Try.func11 rfl Try.ntmps11 rfl ?_
  refine Wp.seq ?_
  refine Wp.region ?_
  refine s_as rfl rfl ?_
  refine WpL.nil ?_
  refine Wp.seq ?_
  refine Wp.region ?_
  refine s_bs2 rfl rfl rfl rfl rfl rfl ?_
  intro gA
  refine s_bd rfl rfl ?_
  refine s_callf rfl rfl (by repeat' constructor) (RawRead_spec _ _ _ [7, 9] (RdsL.blk (cs := [.int .u8 7, .int .u8 9]) (by rfl)) (by decide) (by decide) 5 2 1 255 (by unfold RawH MayH; decide)) ?_
  rintro _ _ ⟨b0, out, er, a, c, hb0, hrd, rfl, rfl⟩
  simp only [napp]
  have hbk := raw_back (K := 5) (M := 255) (W := 2) (Hn := 1) (by decide) (by decide) (by decide) (px := liveP) rfl live_can b0 hb0 0
  rw [live_wr] at hbk
  have hq := hrd.trans hbk
  cases hq
  refine s_mv rfl rfl ?_
  refine s_ext rfl rfl rfl ?_
  refine s_ext rfl rfl rfl ?_
  refine s_as rfl rfl ?_
  refine s_as rfl rfl ?_
  refine WpL.nil ?_
  refine Wp.seq ?_
  refine Wp.region ?_
  refine s_mv rfl rfl ?_
  refine s_eq rfl rfl rfl ?_
  refine s_mv rfl rfl ?_
  refine WpL.knowT (dj := 11) rfl (by simp) ?_
  refine WpL.gon rfl rfl ?_
  refine s_mv rfl rfl ?_
  refine WpL.gon rfl rfl ?_
  refine s_bs2 rfl rfl rfl rfl rfl rfl ?_
  intro gL
  refine WpL.gon rfl rfl ?_
  refine s_callf rfl rfl (by repeat' constructor) (SameRow_spec [_, _] _ _ _ _ liveP liveP RdsL.own.head (RdsL.blk (cs := [.int .u64 281474976710663, .int .u64 281474976710665]) (by rfl)).tail (by decide)) ?_
  rintro _ _ ⟨rfl, rfl⟩
  simp only [napp]
  simp only [decide_true]
  refine s_pickT rfl rfl rfl ?_
  refine s_as rfl rfl ?_
  refine WpL.nil ?_
  refine Wp.ret ?_
  apply RetQ.mk
  · exact (Res.one rfl rfl)
  · exact ⟨rfl, rfl⟩
  · exact Ent.nil _

end Go.Proofs.Ytpoahaadnbdgcaa
