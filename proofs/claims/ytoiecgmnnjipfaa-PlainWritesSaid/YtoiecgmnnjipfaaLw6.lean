/- Walks. -/
import Derived.Test.YtoiecgmnnjipfaaLw5
namespace Go.Proofs.Ytoiecgmnnjipfaa
open Go.RowKit Go.Shelf


def b6 (k : Nat) : Int := match k with
  | 0 => 9
  | 1 => 10
  | 2 => 11
  | 3 => 12
  | 4 => 13
  | _ => 32
theorem b6_at {k : Nat} (h : k < 6) : ([.int .u8 9, .int .u8 10, .int .u8 11, .int .u8 12, .int .u8 13, .int .u8 32] : List Value)[0 + k * 1]? = some (.int .u8 (b6 k)) := by
  have : k = 0 ∨ k = 1 ∨ k = 2 ∨ k = 3 ∨ k = 4 ∨ k = 5 := by omega
  rcases this with rfl | rfl | rfl | rfl | rfl | rfl <;> rfl
theorem b6_ok {k : Nat} (h : k < 6) : blankB (b6 k) = true ∧ 0 ≤ b6 k ∧ b6 k ≤ 255 := by
  have : k = 0 ∨ k = 1 ∨ k = 2 ∨ k = 3 ∨ k = 4 ∨ k = 5 := by omega
  rcases this with rfl | rfl | rfl | rfl | rfl | rfl <;> decide
theorem fit_of_can {p ch M : Int} (hc : ch = 1 ∨ ch = 3) (h1 : 1 ≤ M) (h2 : M ≤ 65535) (h : Can ch M p) : FitP p ch M := ⟨⟨hc, h1, h2⟩, h.1, fun x hx => (h.2.2 x hx).2⟩
theorem wr_good {K W H M : Int} {px : List Int} (hP : PlainH K W H M) (hl : (px.length : Int) = W * H) (hc : ∀ p ∈ px, Can (chK K) M p ∧ 0 ≤ p ∧ p < 18446744073709551616) : WrP K W H M px := by
  have h := hP.1
  unfold MayH at h
  exact ⟨hP, hl, fun p hp => fit_of_can (chK_or K) (by omega) (by omega) (hc p hp).1⟩
/-- What is put behind a byte. -/
def insB (K c b : Int) : List Int := if blankB b = true ∨ K = 1 then [b, c, c] else [b]
theorem insB_y {K c b : Int} (h : blankB b = true ∨ K = 1) : insB K c b = [b, c, c] := if_pos h
theorem insB_n {K c b : Int} (h1 : blankB b = false) (h2 : K ≠ 1) : insB K c b = [b] := if_neg (by rw [h1]; simp [h2])
theorem ins_take {K c : Int} {s : ByteArray} {k : Nat} (h : k < s.size) : ((bsOf s).take (k + 1)).flatMap (insB K c) = ((bsOf s).take k).flatMap (insB K c) ++ insB K c ((s[k]'h).toNat : Int) := by
  have hk : k < (bsOf s).length := by rw [bsOf_len]; exact h
  rw [take_snoc' _ hk, List.flatMap_append, bsOf_at h]
  simp
theorem mul_small {W H : Int} (h1 : 1 ≤ W) (h2 : W ≤ 4) (h3 : 1 ≤ H) (h4 : H ≤ 4) : 0 ≤ W * H ∧ W * H ≤ 16 := ⟨Int.mul_nonneg (by omega) (by omega), Int.mul_le_mul (c := 4) (d := 4) h2 h4 (by omega) (by omega)⟩
structure TxX where
  (k : Nat) (t : ByteArray)

set_option maxHeartbeats 4000000 in
theorem PlainBlanks_spec (A0 : HP) (a0 : Option Addr) (c0 : Nat) (zs : List Int) (hz : ∀ x ∈ zs, -9223372036854775808 ≤ x ∧ x < 9223372036854775808) (hzl : zs.length ≤ 9223372036854775807) (hA : RdsL [A0] a0 (ints zs)) (K W H M b : Int) (k0 : -9223372036854775808 ≤ K) (k1 : K < 9223372036854775808) (w0 : -9223372036854775808 ≤ W) (w1 : W < 9223372036854775808) (h0 : -9223372036854775808 ≤ H) (h1 : H < 9223372036854775808) (m0 : -9223372036854775808 ≤ M) (m1 : M < 9223372036854775808) (b0 : -9223372036854775808 ≤ b) (b1 : b < 9223372036854775808) : Fn Try.prog 5 #[.agg #[.int .i64 K, .int .i64 W, .int .i64 H, .int .i64 M], .slice a0 zs.length c0, .int .i64 b] [A0] (fun v l => v = .bool true ∧ l = [A0]) := by
  have hPH := head_plain (K := K) (W := W) (H := H) (M := M) (m := 4) (by omega) (by omega)
  have hWq : 1 + aroundI W 4 ≤ 4 := by have := aroundI_bd (x := W) (m := 4) (by omega); omega
  have hHq : 1 + aroundI H 4 ≤ 4 := by have := aroundI_bd (x := H) (m := 4) (by omega); omega
  refine Fn.intro (vs := [.agg #[.int .i64 K, .int .i64 W, .int .i64 H, .int .i64 M], .slice a0 zs.length c0, .int .i64 b]) Try.func5 rfl Try.ntmps5 rfl ?_
  refine Wp.seq ?_
  refine Wp.region ?_
  refine s_box rfl rfl rfl ?_
  intro g1
  refine s_as rfl rfl ?_
  refine WpL.nil ?_
  refine Wp.seq ?_
  refine Wp.region ?_
  refine s_lda (vs := [_, _, _, _]) rfl rfl rfl (by rfl) ?_
  refine s_callf rfl rfl (by repeat' constructor) (Head_spec K W H M 4 k0 k1 w0 w1 h0 h1 m0 m1 (by omega) (by omega)) ?_
  rintro _ _ ⟨rfl, rfl⟩
  simp only [napp]
  generalize hdK K = K1 at hPH ⊢
  have hWb := aroundI_bd (x := W) (m := 4) (by omega)
  have hHb := aroundI_bd (x := H) (m := 4) (by omega)
  generalize 1 + aroundI W 4 = W1 at hPH ⊢ hWq
  generalize 1 + aroundI H 4 = H1 at hPH ⊢ hHq
  generalize gdM (gdK K) M = M1 at hPH ⊢
  have hP3 := hPH
  unfold PlainH MayH at hP3
  have hmul := mul_small (W := W1) (H := H1) (by omega) hWq (by omega) hHq
  refine s_al rfl ?_
  intro gH
  refine s_sta rfl rfl rfl (by rfl) rfl ?_
  refine WpL.nil ?_
  refine Wp.seq ?_
  refine Wp.region ?_
  refine s_mv rfl rfl ?_
  refine s_lda (vs := [_, _, _, _]) rfl rfl rfl (by rfl) ?_
  refine s_callf rfl rfl (by repeat' constructor) (Pixels_spec A0 a0 c0 zs hz hzl hA _ _ _ _ hPH (by omega) (by omega)) ?_
  rintro _ _ ⟨px, ap, cp, rfl, hpl, hpc, rfl⟩
  simp only [napp]
  refine s_as rfl rfl ?_
  refine WpL.nil ?_
  refine Wp.seq ?_
  refine Wp.region ?_
  refine s_mv rfl rfl ?_
  refine s_lda (vs := [_, _, _, _]) rfl rfl rfl (by rfl) ?_
  refine s_callf rfl rfl (by repeat' constructor) (rWrite_spec _ ap cp px RdsL.own (fun p hp => (hpc p hp).2) (by omega) _ _ _ _) ?_
  rintro _ _ ⟨s, e, rfl, hw, rfl⟩
  simp only [napp]
  have hwr := wr_good hPH hpl hpc
  rcases hw with ⟨_, rfl, hbs, hsz⟩ | ⟨hw, _⟩
  rotate_left
  · exact absurd hwr hw
  refine s_mv rfl rfl ?_
  refine s_ext rfl rfl rfl ?_
  refine s_ext rfl rfl rfl ?_
  refine s_as rfl rfl ?_
  refine s_as rfl rfl ?_
  refine WpL.nil ?_
  refine Wp.seq ?_
  refine Wp.region ?_
  refine s_bs6 rfl rfl rfl rfl rfl rfl rfl rfl rfl rfl rfl rfl rfl rfl ?_
  intro g3
  refine s_mv rfl rfl ?_
  refine s_callf rfl rfl (by repeat' constructor) (Around_spec _ _ b0 b1 (by omega)) ?_
  rintro _ _ ⟨rfl, rfl⟩
  simp only [napp]
  obtain ⟨kb, hkb⟩ := Int.eq_ofNat_of_zero_le (aroundI_bd (x := b) (m := 6) (by omega)).1
  have hkb6 : kb < 6 := by have := (aroundI_bd (x := b) (m := 6) (by omega)).2; omega
  rw [hkb]
  refine s_ixA (k := kb) rfl rfl rfl (by omega) ?_
  refine s_ld (v := .int .u8 (b6 kb)) rfl rfl (b6_at hkb6) ?_
  have hcc := b6_ok hkb6
  generalize b6 kb = c at hcc ⊢
  have bsOf_cc : bsOf (strOfNums [c, c]) = [c, c] := bsOf_nums (by intro x hx; simp at hx; omega)
  have bsOf_c : bsOf (strOfNums [c]) = [c] := bsOf_nums (by intro x hx; simp at hx; omega)
  refine s_as rfl rfl ?_
  refine WpL.nil ?_
  refine Wp.seq ?_
  refine Wp.region ?_
  refine s_mv rfl rfl ?_
  refine s_bs1 rfl rfl rfl rfl ?_
  intro g4
  rw [show ([.int .u8 c] : List Value) = u8s [c] from rfl]
  refine s_b2s (xs := [c]) rfl Try.underlying44 Try.underlying5 Try.underlying9 rfl rfl ?_
  refine s_as rfl rfl ?_
  refine WpL.nil ?_
  refine Wp.seq ?_
  refine Wp.seq ?_
  refine Wp.region ?_
  refine s_as rfl rfl ?_
  refine WpL.nil ?_
  refine Wp.block ?_
  refine Wp.loopD (σ := TxX) (fun x => x.k ≤ s.size ∧ bsOf x.t = c :: ((bsOf s).take x.k).flatMap (insB K1 c) ∧ x.t.size ≤ 1 + 3 * x.k) [12, 13, 36, 37, 38, 39, 40, 41, 42, 43, 44, 45, 46, 47, 48, 49, 50, 51, 52, 53, 54, 55, 56, 57, 58, 59, 60, 61, 62, 63] (fun x => [(13, .int .i64 (x.k : Int)), (12, .string x.t)]) (fun x => [own 62 1 ap cp px.length (pxs px), blk gH [.int .i64 K1, .int .i64 W1, .int .i64 H1, .int .i64 M1] 23, A0]) (fun x => s.size - x.k) ⟨0, strOfNums [c]⟩ ?_ (by repeat (first | exact FrLe.nil | refine FrLe.cons rfl ?_)) ?_ ?_
  · exact ⟨Nat.zero_le _, by simp only; rw [bsOf_c]; rfl, by rw [size_nums]; simp⟩
  · first | exact Ent.refl _ | exact Ent.nil _ | exact Take.ent' (by repeat' constructor) | (repeat (first | exact Ent.refl _ | refine Ent.drop ?_))
  · rintro ⟨k, t⟩ ⟨hk, htb, htz⟩
    dsimp only at hk htb htz ⊢
    refine Wp.seq ?_
    refine Wp.seq ?_
    refine Wp.region ?_
    refine s_mv rfl rfl ?_
    refine s_mv rfl rfl ?_
    refine s_lens rfl Try.underlying9 rfl ?_
    refine s_lt rfl rfl rfl ?_
    refine WpL.nil ?_
    refine Wp.condD rfl (fun h1 => ?_) (fun h1 => ?_)
    · have hlt : k < s.size := by omega
      have bsOf_ext : bsOf (s.extract ((k : Int)).toNat ((k : Int) + 1).toNat) = [((s[k]'hlt).toNat : Int)] := by rw [show ((k : Int)).toNat = k by omega, show ((k : Int) + 1).toNat = k + 1 by omega]; exact bsOf_ext1 hlt
      refine Wp.skip ?_
      refine Wp.seq ?_
      refine Wp.block ?_
      refine Wp.seq ?_
      refine Wp.region ?_
      refine s_mv rfl rfl ?_
      refine s_mv rfl rfl ?_
      refine s_mv rfl rfl ?_
      refine s_mv rfl rfl ?_
      first | refine s_add rfl rfl rfl (w_i64 (by omega) (by omega)) ?_ | refine s_addw rfl rfl rfl ?_
      refine s_slsm rfl Try.underlying9 rfl rfl rfl (by omega) (by omega) (by omega) ?_
      refine s_cat rfl rfl rfl (by rw [ByteArray.size_extract]; omega) ?_
      refine s_as rfl rfl ?_
      refine WpL.nil ?_
      refine Wp.seq ?_
      refine Wp.region ?_
      refine s_mv rfl rfl ?_
      refine s_mv rfl rfl ?_
      refine s_ixs rfl Try.underlying9 rfl rfl (by omega) (by simp; omega) ?_
      refine s_callf rfl rfl (by repeat' constructor) (rBlank_spec _) ?_
      rintro _ _ ⟨rfl, rfl⟩
      simp only [napp]
      refine s_mv rfl rfl ?_
      refine WpL.grd rfl rfl rfl (fun hg1 => ?_) (fun hg1 => ?_)
      · refine s_fa (o2 := 0) rfl rfl rfl ?_
        refine WpL.gon rfl rfl ?_
        refine s_ld rfl rfl (by rfl) ?_
        refine WpL.gon rfl rfl ?_
        refine s_eq rfl rfl rfl ?_
        refine s_pickF rfl rfl rfl ?_
        refine WpL.nil ?_
        refine Wp.condD rfl (fun h2 => ?_) (fun h2 => ?_)
        · refine Wp.region ?_
          refine s_mv rfl rfl ?_
          refine s_mv rfl rfl ?_
          refine s_mv rfl rfl ?_
          refine s_bs2 rfl rfl rfl rfl rfl rfl ?_
          intro g5
          rw [show ([.int .u8 c, .int .u8 c] : List Value) = u8s [c, c] from rfl]
          refine s_b2s (xs := [c, c]) rfl Try.underlying44 Try.underlying5 Try.underlying9 rfl rfl ?_
          refine s_cat rfl rfl rfl (by rw [ByteArray.size_append, ByteArray.size_extract, size_nums]; simp; omega) ?_
          refine s_as rfl rfl ?_
          refine WpL.nil ?_
          refine Wp.region ?_
          refine s_mv rfl rfl ?_
          first | refine s_add rfl rfl rfl (w_i64 (by omega) (by omega)) ?_ | refine s_addw rfl rfl rfl ?_
          refine s_as rfl rfl ?_
          refine WpL.nil ?_
          refine loopD.next (⟨k + 1, t ++ s.extract ((k : Int)).toNat ((k : Int) + 1).toNat ++ strOfNums [c, c]⟩ : TxX) ?_ ?_ (by repeat (first | exact Top.refl | refine Top.push rfl ?_ | refine Top.drop rfl ?_)) (by repeat (first | exact FrLe.nil | refine FrLe.cons rfl ?_)) ?_
          · refine ⟨by simp only; omega, ?_, ?_⟩
            · simp only
              rw [bsOf_app, bsOf_app, bsOf_cc, htb, ins_take hlt, bsOf_ext, insB_y (.inr (by omega))]
              simp
            · simp only [ByteArray.size_append, ByteArray.size_extract, size_nums, List.length_cons, List.length_nil]; omega
          · simp only; omega
          · first | exact Ent.refl _ | exact Ent.nil _ | exact Take.ent' (by repeat' constructor) | (repeat (first | exact Ent.refl _ | refine Ent.drop ?_))
        · refine Wp.skip ?_
          refine Wp.region ?_
          refine s_mv rfl rfl ?_
          first | refine s_add rfl rfl rfl (w_i64 (by omega) (by omega)) ?_ | refine s_addw rfl rfl rfl ?_
          refine s_as rfl rfl ?_
          refine WpL.nil ?_
          refine loopD.next (⟨k + 1, t ++ s.extract ((k : Int)).toNat ((k : Int) + 1).toNat⟩ : TxX) ?_ ?_ (by repeat (first | exact Top.refl | refine Top.push rfl ?_ | refine Top.drop rfl ?_)) (by repeat (first | exact FrLe.nil | refine FrLe.cons rfl ?_)) ?_
          · refine ⟨by simp only; omega, ?_, ?_⟩
            · simp only
              rw [bsOf_app, htb, ins_take hlt, bsOf_ext, insB_n (by assumption) (by omega)]
              simp
            · simp only [ByteArray.size_append, ByteArray.size_extract]; omega
          · simp only; omega
          · first | exact Ent.refl _ | exact Ent.nil _ | exact Take.ent' (by repeat' constructor) | (repeat (first | exact Ent.refl _ | refine Ent.drop ?_))
      · refine WpL.goff rfl rfl rfl (by decide) ?_
        refine WpL.goff rfl rfl rfl (by decide) ?_
        refine s_pickT rfl rfl rfl ?_
        refine WpL.nil ?_
        refine Wp.condT rfl ?_
        refine Wp.region ?_
        refine s_mv rfl rfl ?_
        refine s_mv rfl rfl ?_
        refine s_mv rfl rfl ?_
        refine s_bs2 rfl rfl rfl rfl rfl rfl ?_
        intro g6
        rw [show ([.int .u8 c, .int .u8 c] : List Value) = u8s [c, c] from rfl]
        refine s_b2s (xs := [c, c]) rfl Try.underlying44 Try.underlying5 Try.underlying9 rfl rfl ?_
        refine s_cat rfl rfl rfl (by rw [ByteArray.size_append, ByteArray.size_extract, size_nums]; simp; omega) ?_
        refine s_as rfl rfl ?_
        refine WpL.nil ?_
        refine Wp.region ?_
        refine s_mv rfl rfl ?_
        first | refine s_add rfl rfl rfl (w_i64 (by omega) (by omega)) ?_ | refine s_addw rfl rfl rfl ?_
        refine s_as rfl rfl ?_
        refine WpL.nil ?_
        refine loopD.next (⟨k + 1, t ++ s.extract ((k : Int)).toNat ((k : Int) + 1).toNat ++ strOfNums [c, c]⟩ : TxX) ?_ ?_ (by repeat (first | exact Top.refl | refine Top.push rfl ?_ | refine Top.drop rfl ?_)) (by repeat (first | exact FrLe.nil | refine FrLe.cons rfl ?_)) ?_
        · refine ⟨by simp only; omega, ?_, ?_⟩
          · simp only
            rw [bsOf_app, bsOf_app, bsOf_cc, htb, ins_take hlt, bsOf_ext, insB_y (.inl (by assumption))]
            simp
          · simp only [ByteArray.size_append, ByteArray.size_extract, size_nums, List.length_cons, List.length_nil]; omega
        · simp only; omega
        · first | exact Ent.refl _ | exact Ent.nil _ | exact Take.ent' (by repeat' constructor) | (repeat (first | exact Ent.refl _ | refine Ent.drop ?_))
    · refine Wp.exit ?_
      refine Wp.seq ?_
      refine Wp.region ?_
      refine s_mv rfl rfl ?_
      refine s_lda (vs := [_, _, _, _]) rfl rfl rfl (by rfl) ?_
      have hke : k = s.size := by omega
      rw [hke, List.take_of_length_le (by rw [bsOf_len]; omega), hbs] at htb
      have hfd := Feed.blank (K := K1) (M := M1) hcc.1 (feed_ins hcc.1 (feed_wr (K := K1) (W := W1) (M := M1) (by omega) (by omega) (by omega) px 0 (fun p hp => (hpc p hp).1)))
      obtain ⟨jj, hjj⟩ := read_all (W := W1) (H := H1) hPH hfd (fun p hp => (hpc p hp).1) (by rw [hpl, Int.mul_comm])
      have hjq : readS K1 W1 H1 M1 (bsOf t) = (px, jj, 0) := by rw [htb]; exact hjj
      refine s_callf rfl rfl (by repeat' constructor) (Read_spec t (by omega) K1 W1 H1 M1) ?_
      rintro _ _ ⟨out, i, x, a, cc, hrd, rfl, rfl⟩
      simp only [napp]
      have hq := hrd.trans hjq
      cases hq
      refine s_mv rfl rfl ?_
      refine s_ext rfl rfl rfl ?_
      refine s_ext rfl rfl rfl ?_
      refine s_ext rfl rfl rfl ?_
      refine s_as rfl rfl ?_
      refine s_as rfl rfl ?_
      refine s_as rfl rfl ?_
      refine WpL.nil ?_
      refine Wp.seq ?_
      refine Wp.region ?_
      refine s_mv rfl rfl ?_
      refine s_eq rfl rfl rfl ?_
      refine s_mv rfl rfl ?_
      refine WpL.knowT (dj := 73) rfl (by simp) ?_
      refine WpL.gon rfl rfl ?_
      refine s_mv rfl rfl ?_
      refine WpL.gon rfl rfl ?_
      refine s_mv rfl rfl ?_
      refine WpL.gon rfl rfl ?_
      refine s_callf rfl rfl (by repeat' constructor) (SameRow_spec [_, _] _ _ _ _ _ _ RdsL.own.head RdsL.own.tail (by omega)) ?_
      rintro _ _ ⟨rfl, rfl⟩
      simp only [napp]
      refine s_pickT rfl rfl rfl ?_
      refine s_mv rfl rfl ?_
      refine WpL.knowT (dj := 78) rfl (by simp) ?_
      refine WpL.gon rfl rfl ?_
      refine s_callf rfl rfl (by repeat' constructor) (lives_spec) ?_
      rintro _ _ ⟨rfl, rfl⟩
      simp only [napp]
      refine s_pickT rfl rfl rfl ?_
      refine s_as rfl rfl ?_
      refine WpL.nil ?_
      refine Wp.ret ?_
      apply RetQ.mk
      · exact (Res.one rfl rfl)
      · exact ⟨rfl, rfl⟩
      · first | exact Ent.refl _ | exact Ent.nil _ | exact Take.ent' (by repeat' constructor) | (repeat (first | exact Ent.refl _ | refine Ent.drop ?_))

end Go.Proofs.Ytoiecgmnnjipfaa
