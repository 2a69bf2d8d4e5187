/- Walks. -/
import Derived.Test.YtoiecgmnnjipfaaLw
namespace Go.Proofs.Ytoiecgmnnjipfaa
open Go.RowKit Go.Shelf

theorem PlainNew_spec (K W H M : Int) (k0 : -9223372036854775808 ≤ K) (k1 : K < 9223372036854775808) (w0 : -9223372036854775808 ≤ W) (w1 : W < 9223372036854775808) (h0 : -9223372036854775808 ≤ H) (h1 : H < 9223372036854775808) (m0 : -9223372036854775808 ≤ M) (m1 : M < 9223372036854775808) : Fn Try.prog 4 #[.agg #[.int .i64 K, .int .i64 W, .int .i64 H, .int .i64 M]] [] (fun v l => v = .bool true ∧ l = []) := by
  refine Fn.intro (vs := [.agg #[.int .i64 K, .int .i64 W, .int .i64 H, .int .i64 M]]) Try.func4 rfl Try.ntmps4 rfl ?_
  refine Wp.seq ?_
  refine Wp.region ?_
  refine s_box rfl rfl rfl ?_
  intro g1
  refine s_as rfl rfl ?_
  refine WpL.nil ?_
  refine Wp.seq ?_
  apply Wp.drawGN mixed [(3, false)] (by kernel_rfl)
  apply GoR.segF [⟨0, 8, _, [], false⟩, ⟨1, 9, _, [], false⟩, ⟨2, 10, _, [1], false⟩] [] [0, 1, 2] [3] rfl rfl rfl (by kernel_rfl) rfl rfl rfl
  · refine AllF.cons rfl rfl rfl rfl ?_ ?_
    · refine s_lda (vs := [_, _, _, _]) rfl rfl rfl (by rfl) ?_
      exact obN rfl
    refine AllF.cons rfl rfl rfl rfl ?_ ?_
    · refine s_lda (vs := [_, _, _, _]) rfl rfl rfl (by rfl) ?_
      exact obN rfl
    refine AllF.cons rfl rfl rfl rfl ?_ ?_
    · refine s_callf rfl rfl (by repeat' constructor) (Good_spec _ _ _ _ _ (by omega) (by omega) (by omega) (by omega) (by omega) (by omega) (by omega) (by omega) (by omega) (by omega)) ?_
      rintro _ _ ⟨rfl, rfl⟩
      simp only [napp]
      exact WpL.nil ⟨rfl, rfl, rfl, by first | exact Ent.refl _ | exact Ent.nil _ | exact Take.ent' (by repeat' constructor) | (repeat (first | exact Ent.refl _ | refine Ent.drop ?_))⟩
    exact AllF.nil
  · refine s_bsA42 rfl rfl rfl ?_
    intro gA
    refine WpL.nil ⟨rfl, rfl, ?_⟩
    apply GoR.nil [⟨4, 3, _, [0, 1, 2, 3], false⟩] rfl rfl
    · refine AllF.cons rfl rfl rfl rfl ?_ ?_
      · refine s_as rfl rfl ?_
        exact obN rfl
      exact AllF.nil
    · refine Wp.seq ?_
      refine Wp.seq ?_
      refine Wp.region ?_
      refine s_as rfl rfl ?_
      refine WpL.nil ?_
      refine Wp.block ?_
      refine Wp.loopD (σ := Nat) (fun k => k ≤ 2) [2, 4, 5, 6, 7, 12, 13, 14, 15, 16, 17, 18, 19, 20, 21, 22, 23, 24, 25, 26, 27, 28, 29, 30, 31, 32, 33, 34, 35, 36, 37, 38, 39, 40, 41, 42, 43, 44, 45, 46] (fun k => [(4, .int .i64 (k : Int))]) (fun k => [blk gA [.int .i64 K, .int .i64 W, .int .i64 H, .int .i64 M, .int .i64 (gdK K), .int .i64 (1 + aroundI W 4096), .int .i64 (1 + aroundI H 4096), .int .i64 (gdM (gdK K) M)] 23]) (fun k => 2 - k) 0 ?_ (by repeat (first | exact FrLe.nil | refine FrLe.cons rfl ?_)) ?_ ?_
      · exact Nat.zero_le _
      · first | exact Ent.refl _ | exact Ent.nil _ | exact Take.ent' (by repeat' constructor) | (repeat (first | exact Ent.refl _ | refine Ent.drop ?_))
      · rintro k hk
        refine Wp.seq ?_
        refine Wp.seq ?_
        refine Wp.region ?_
        refine s_mv rfl rfl ?_
        refine s_lt rfl rfl rfl ?_
        refine WpL.nil ?_
        refine Wp.condD rfl (fun h1 => ?_) (fun h1 => ?_)
        · have hk2 : k < 2 := by omega
          refine Wp.skip ?_
          refine Wp.seq ?_
          refine Wp.block ?_
          refine Wp.seq ?_
          refine Wp.region ?_
          refine s_mv rfl rfl ?_
          refine s_mv rfl rfl ?_
          refine s_ixA (k := k) rfl rfl rfl (by omega) ?_
          refine s_lda (vs := [.int .i64 (if k = 0 then K else gdK K), .int .i64 (if k = 0 then W else 1 + aroundI W 4096), .int .i64 (if k = 0 then H else 1 + aroundI H 4096), .int .i64 (if k = 0 then M else gdM (gdK K) M)]) rfl rfl rfl (sel42 hk2) ?_
          refine s_callf rfl rfl (by repeat' constructor) (New_spec _ _ _ _) ?_
          intro v0 m0 hN0
          rcases hN0 with ⟨hP, g, rfl, rfl⟩ | ⟨hP, rfl, rfl⟩
          · simp only [napp]
            refine s_mv rfl rfl ?_
            refine s_ext rfl rfl rfl ?_
            refine s_ext rfl rfl rfl ?_
            refine s_as rfl rfl ?_
            refine s_as rfl rfl ?_
            refine WpL.nil ?_
            refine Wp.seq ?_
            refine Wp.region ?_
            refine s_mv rfl rfl ?_
            refine s_mv rfl rfl ?_
            refine s_ixA (k := k) rfl rfl rfl (by omega) ?_
            refine s_lda (vs := [.int .i64 (if k = 0 then K else gdK K), .int .i64 (if k = 0 then W else 1 + aroundI W 4096), .int .i64 (if k = 0 then H else 1 + aroundI H 4096), .int .i64 (if k = 0 then M else gdM (gdK K) M)]) rfl rfl rfl (sel42 hk2) ?_
            refine s_callf rfl rfl (by repeat' constructor) (rMay_spec _ _ _ _) ?_
            rintro _ _ ⟨rfl, rfl⟩
            simp only [napp]
            first | rw [decide_eq_true hP] | rw [decide_eq_false hP]
            refine s_as rfl rfl ?_
            refine WpL.nil ?_
            refine Wp.seq ?_
            refine Wp.region ?_
            refine s_mv rfl rfl ?_
            refine s_pne rfl Try.underlying36 rfl rfl ?_
            refine s_mv rfl rfl ?_
            refine s_bne rfl Try.underlying4 rfl rfl ?_
            refine s_mv rfl rfl ?_
            refine WpL.knowF (dj := 33) rfl rfl ?_
            refine WpL.gon rfl rfl ?_
            refine s_mv rfl rfl ?_
            refine WpL.gon rfl rfl ?_
            refine s_eq rfl rfl rfl ?_
            refine WpL.gon rfl rfl ?_
            refine s_mv rfl rfl ?_
            refine WpL.gon rfl rfl ?_
            refine s_bne rfl Try.underlying4 rfl rfl ?_
            refine s_pickF rfl rfl rfl ?_
            refine s_mv rfl rfl ?_
            refine WpL.knowF (dj := 39) rfl (by rfl) ?_
            refine WpL.gon rfl rfl ?_
            refine s_mv rfl rfl ?_
            refine WpL.gon rfl rfl ?_
            refine s_not rfl rfl ?_
            refine WpL.gon rfl rfl ?_
            refine s_mv rfl rfl ?_
            refine WpL.knowF (dj := 42) rfl rfl ?_
            refine WpL.goff rfl rfl rfl (by decide) ?_
            refine WpL.goff rfl rfl rfl (by decide) ?_
            refine WpL.gon rfl rfl ?_
            refine s_pickF rfl rfl rfl ?_
            refine s_pickF rfl rfl rfl ?_
            refine WpL.nil ?_
            refine Wp.condF rfl ?_
            refine Wp.skip ?_
            refine Wp.region ?_
            refine s_mv rfl rfl ?_
            first | refine s_add rfl rfl rfl (w_i64 (by omega) (by omega)) ?_ | refine s_addw rfl rfl rfl ?_
            refine s_as rfl rfl ?_
            refine WpL.nil ?_
            refine loopD.next (k + 1) ?_ ?_ (by repeat (first | exact Top.refl | refine Top.push rfl ?_ | refine Top.drop rfl ?_)) (by repeat (first | exact FrLe.nil | refine FrLe.cons rfl ?_)) ?_
            · omega
            · omega
            · first | exact Ent.refl _ | exact Ent.nil _ | exact Take.ent' (by repeat' constructor) | (repeat (first | exact Ent.refl _ | refine Ent.drop ?_))
          · simp only [napp]
            refine s_mv rfl rfl ?_
            refine s_ext rfl rfl rfl ?_
            refine s_ext rfl rfl rfl ?_
            refine s_as rfl rfl ?_
            refine s_as rfl rfl ?_
            refine WpL.nil ?_
            refine Wp.seq ?_
            refine Wp.region ?_
            refine s_mv rfl rfl ?_
            refine s_mv rfl rfl ?_
            refine s_ixA (k := k) rfl rfl rfl (by omega) ?_
            refine s_lda (vs := [.int .i64 (if k = 0 then K else gdK K), .int .i64 (if k = 0 then W else 1 + aroundI W 4096), .int .i64 (if k = 0 then H else 1 + aroundI H 4096), .int .i64 (if k = 0 then M else gdM (gdK K) M)]) rfl rfl rfl (sel42 hk2) ?_
            refine s_callf rfl rfl (by repeat' constructor) (rMay_spec _ _ _ _) ?_
            rintro _ _ ⟨rfl, rfl⟩
            simp only [napp]
            first | rw [decide_eq_true hP] | rw [decide_eq_false hP]
            refine s_as rfl rfl ?_
            refine WpL.nil ?_
            refine Wp.seq ?_
            refine Wp.region ?_
            refine s_mv rfl rfl ?_
            refine s_pne rfl Try.underlying36 rfl rfl ?_
            refine s_mv rfl rfl ?_
            refine s_bne rfl Try.underlying4 rfl rfl ?_
            refine s_mv rfl rfl ?_
            refine WpL.knowF (dj := 33) rfl rfl ?_
            refine WpL.gon rfl rfl ?_
            refine s_mv rfl rfl ?_
            refine WpL.gon rfl rfl ?_
            refine s_eq rfl rfl rfl ?_
            refine WpL.gon rfl rfl ?_
            refine s_mv rfl rfl ?_
            refine WpL.gon rfl rfl ?_
            refine s_bne rfl Try.underlying4 rfl rfl ?_
            refine s_pickF rfl rfl rfl ?_
            refine s_mv rfl rfl ?_
            refine WpL.knowF (dj := 39) rfl (by rfl) ?_
            refine WpL.gon rfl rfl ?_
            refine s_mv rfl rfl ?_
            refine WpL.gon rfl rfl ?_
            refine s_not rfl rfl ?_
            refine WpL.gon rfl rfl ?_
            refine s_mv rfl rfl ?_
            refine WpL.knowT (dj := 42) rfl rfl ?_
            refine WpL.gon rfl rfl ?_
            refine s_mv rfl rfl ?_
            refine WpL.gon rfl rfl ?_
            refine s_ne rfl rfl rfl ?_
            refine WpL.gon rfl rfl ?_
            refine s_pickT rfl rfl rfl ?_
            refine s_pickF rfl rfl rfl ?_
            refine WpL.nil ?_
            refine Wp.condDF rfl (by simp) ?_
            refine Wp.skip ?_
            refine Wp.region ?_
            refine s_mv rfl rfl ?_
            first | refine s_add rfl rfl rfl (w_i64 (by omega) (by omega)) ?_ | refine s_addw rfl rfl rfl ?_
            refine s_as rfl rfl ?_
            refine WpL.nil ?_
            refine loopD.next (k + 1) ?_ ?_ (by repeat (first | exact Top.refl | refine Top.push rfl ?_ | refine Top.drop rfl ?_)) (by repeat (first | exact FrLe.nil | refine FrLe.cons rfl ?_)) ?_
            · omega
            · omega
            · first | exact Ent.refl _ | exact Ent.nil _ | exact Take.ent' (by repeat' constructor) | (repeat (first | exact Ent.refl _ | refine Ent.drop ?_))
        · refine Wp.exit ?_
          refine Wp.seq ?_
          refine Wp.region ?_
          refine s_callf rfl rfl (by repeat' constructor) (lives_spec) ?_
          rintro _ _ ⟨rfl, rfl⟩
          simp only [napp]
          refine s_as rfl rfl ?_
          refine WpL.nil ?_
          refine Wp.ret ?_
          apply RetQ.mk
          · exact (Res.one rfl rfl)
          · exact ⟨rfl, rfl⟩
          · first | exact Ent.refl _ | exact Ent.nil _ | exact Take.ent' (by repeat' constructor) | (repeat (first | exact Ent.refl _ | refine Ent.drop ?_))


theorem endR_inv {K W H : Int} {k m : Nat} {s : RS} (hs : RInv (chK K) k m s) : RInv (chK K) (k + 1) m (endR K W H s).1 := by
  have h := endsR_inv (chK_pos K).1 hs
  have hk := (endsR_keep (chK K) s).1
  have h2 := fullR_inv (W := W) (H := H) (chK_pos K).1 h (by rw [hk]; exact hs.2.2.2)
  obtain ⟨h3, h4, h5, h6⟩ := h2
  unfold endR
  split
  · exact hs.up
  · split
    · exact ⟨h3, by simp only [wrongR]; omega, h5, h6⟩
    · exact ⟨h3, by omega, h5, h6⟩
theorem endR_good {K W H : Int} {s : RS} (hW : 1 ≤ W) (h : RGood K W s) : RGood K W (endR K W H s).1 := by
  have h2 : RGood K W (fullR W H (endsR (chK K) s)).1 := fullR_good hW (by rw [endsR_n]; decide) (fun _ => endsR_n)
  unfold endR
  split
  · exact h
  · split
    · exact h2
    · exact h2
theorem endR_last {K W H : Int} {s : RS} : (endR K W H s).1.last ≠ 0 := by
  unfold endR
  split
  · assumption
  · split
    · simp [wrongR]
    · assumption
theorem RInv.zero {ch : Int} {k m : Nat} {s : RS} (h : RInv ch k m s) : RInv ch k 0 s := ⟨h.1, by have := h.2.1; omega, h.2.2⟩
theorem head_plain {K W H M m : Int} (hm : 1 ≤ m) (hm2 : m ≤ 4096) : PlainH (hdK K) (1 + aroundI W m) (1 + aroundI H m) (gdM (gdK K) M) := by
  have h1 := gdK_bd K
  have h2 := gdM_bd (gdK K) M
  have h3 := aroundI_bd (x := W) hm
  have h4 := aroundI_bd (x := H) hm
  have h5 : gdK K = 1 ∨ gdK K = 4 → gdM (gdK K) M = 1 := fun h => if_pos h
  unfold PlainH MayH hdK
  split <;> omega
structure StX where
  (k : Nat) (n : Int) (one row : List Int) (rows last e : Int) (a1 : Option Addr) (c1 : Nat) (a2 : Option Addr) (c2 : Nat) (b1 : Option Addr) (d1 : Nat) (b2 : Option Addr) (d2 : Nat)

set_option maxHeartbeats 4000000 in
theorem PlainSteps_spec (s : ByteArray) (K W H M : Int) (k0 : -9223372036854775808 ≤ K) (k1 : K < 9223372036854775808) (w0 : -9223372036854775808 ≤ W) (w1 : W < 9223372036854775808) (h0 : -9223372036854775808 ≤ H) (h1 : H < 9223372036854775808) (m0 : -9223372036854775808 ≤ M) (m1 : M < 9223372036854775808) : Fn Try.prog 6 #[.string s, .agg #[.int .i64 K, .int .i64 W, .int .i64 H, .int .i64 M]] [] (fun v l => v = .bool true ∧ l = []) := by
  have hfs := fewS_size (s := s) (n := 60) (by omega)
  have hPH := head_plain (K := K) (W := W) (H := H) (M := M) (m := 4) (by omega) (by omega)
  refine Fn.intro (vs := [.string s, .agg #[.int .i64 K, .int .i64 W, .int .i64 H, .int .i64 M]]) Try.func6 rfl Try.ntmps6 rfl ?_
  refine Wp.seq ?_
  refine Wp.region ?_
  refine s_box rfl rfl rfl ?_
  intro g1
  refine s_as rfl rfl ?_
  refine WpL.nil ?_
  refine Wp.seq ?_
  refine Wp.region ?_
  refine s_mv rfl rfl ?_
  refine s_callf rfl rfl (by repeat' constructor) (Few_spec _ _ (by omega)) ?_
  rintro _ _ ⟨rfl, rfl⟩
  simp only [napp]
  refine s_as rfl rfl ?_
  refine WpL.nil ?_
  refine Wp.seq ?_
  refine Wp.region ?_
  refine s_lda (vs := [_, _, _, _]) rfl rfl rfl (by rfl) ?_
  refine s_callf rfl rfl (by repeat' constructor) (Head_spec K W H M 4 k0 k1 w0 w1 h0 h1 m0 m1 (by omega) (by omega)) ?_
  rintro _ _ ⟨rfl, rfl⟩
  simp only [napp]
  generalize hdK K = K1 at hPH ⊢
  generalize 1 + aroundI W 4 = W1 at hPH ⊢
  generalize 1 + aroundI H 4 = H1 at hPH ⊢
  generalize gdM (gdK K) M = M1 at hPH ⊢
  have hP3 := hPH
  unfold PlainH MayH at hP3
  refine s_al rfl ?_
  intro g2
  refine s_sta rfl rfl rfl (by rfl) rfl ?_
  refine WpL.nil ?_
  refine Wp.seq ?_
  refine Wp.region ?_
  refine s_lda (vs := [_, _, _, _]) rfl rfl rfl (by rfl) ?_
  refine s_callf rfl rfl (by repeat' constructor) (New_spec _ _ _ _) ?_
  intro v0 m0 hN0
  rcases hN0 with ⟨hP, g, rfl, rfl⟩ | ⟨hP, rfl, rfl⟩
  · simp only [napp]
    refine s_mv rfl rfl ?_
    refine s_ext rfl rfl rfl ?_
    refine s_ext rfl rfl rfl ?_
    refine s_as rfl rfl ?_
    refine s_as rfl rfl ?_
    refine WpL.nil ?_
    refine Wp.seq ?_
    refine Wp.seq ?_
    refine Wp.region ?_
    refine s_mv rfl rfl ?_
    refine s_peq rfl Try.underlying36 rfl rfl ?_
    refine s_mv rfl rfl ?_
    refine WpL.gon rfl rfl ?_
    refine s_mv rfl rfl ?_
    refine WpL.gon rfl rfl ?_
    refine s_ne rfl rfl rfl ?_
    refine s_pickF rfl rfl rfl ?_
    refine WpL.nil ?_
    refine Wp.condDF rfl (by simp) ?_
    refine Wp.skip ?_
    refine Wp.seq ?_
    refine Wp.region ?_
    refine s_lda (vs := [_, _, _, _]) rfl rfl rfl (by rfl) ?_
    refine s_callf rfl rfl (by repeat' constructor) (rNew_spec _ _ _ _) ?_
    rintro _ _ ⟨rfl, rfl⟩
    simp only [napp]
    refine s_al rfl ?_
    intro gR
    refine s_sta rfl rfl rfl (by rfl) rfl ?_
    refine WpL.nil ?_
    refine Wp.seq ?_
    refine Wp.seq ?_
    refine Wp.region ?_
    refine s_as rfl rfl ?_
    refine WpL.nil ?_
    refine Wp.block ?_
    refine Wp.loopD (σ := StX) (fun x => x.k ≤ (fewS s 60).size ∧ RInv (chK K1) (x.k) 0 ⟨x.n, x.one, x.row, x.rows, x.last, x.e⟩ ∧ RGood K1 W1 ⟨x.n, x.one, x.row, x.rows, x.last, x.e⟩) [4, 9, 10, 11, 12, 13, 38, 39, 40, 41, 42, 43, 44, 45, 46, 47, 48, 49, 50, 51, 52, 53, 54, 55, 56, 57, 58, 59, 60, 61, 62, 63, 64, 65, 66, 67, 68, 69, 70, 71, 72, 73, 74, 75, 76, 77, 78, 79, 80, 81, 82, 83, 84] (fun x => [(9, .int .i64 (x.k : Int))]) (fun x => [blk gR [.int .i64 K1, .int .i64 W1, .int .i64 H1, .int .i64 M1, .int .i64 x.n, .slice x.a1 x.one.length x.c1, .slice x.a2 x.row.length x.c2, .int .i64 x.rows, .int .i64 x.last, .int .i64 x.e] 49, own 3 1 x.a1 x.c1 x.one.length (ints x.one), own 62 1 x.a2 x.c2 x.row.length (pxs x.row), blk g [.int .i64 K1, .int .i64 W1, .int .i64 H1, .int .i64 M1, stpOf K1, .int .i64 x.n, .slice x.b1 x.one.length x.d1, .slice x.b2 x.row.length x.d2, .int .i64 x.rows, .int .i64 x.last, .int .i64 x.e] 73, own 3 1 x.b1 x.d1 x.one.length (ints x.one), own 62 1 x.b2 x.d2 x.row.length (pxs x.row)]) (fun x => (fewS s 60).size - x.k) ⟨0, -1, [], [], 0, 0, 0, none, 0, none, 0, none, 0, none, 0⟩ ?_ (by repeat (first | exact FrLe.nil | refine FrLe.cons rfl ?_)) ?_ ?_
    · exact ⟨Nat.zero_le _, ⟨by simp; have := chK_pos K1; omega, by simp, by simp, by simp⟩, by decide, fun _ => rfl, by simp only [List.length_nil]; omega⟩
    · exact (Ent.own_nil (T := 3) (s := 1) (Ent.refl _)).trans ((Ent.own_nil (T := 62) (s := 1) (Ent.refl _)).trans (Take.ent' (by repeat' constructor)))
    · rintro ⟨k, n, one, row, rows, last, e, a1, c1, a2, c2, b1, d1, b2, d2⟩ ⟨hk, hinv, hgd⟩
      dsimp only at hk hinv hgd ⊢
      have hch := chK_pos K1
      have hin := hinv
      obtain ⟨hi1, hi2, hi3, hi4⟩ := hin
      dsimp only at hi1 hi2 hi3 hi4
      have hg2 := hgd
      obtain ⟨hgn, hgk, hgr⟩ := hg2
      dsimp only at hgn hgk hgr
      refine Wp.seq ?_
      refine Wp.seq ?_
      refine Wp.region ?_
      refine s_mv rfl rfl ?_
      refine s_mv rfl rfl ?_
      refine s_lens rfl Try.underlying9 rfl ?_
      refine s_lt rfl rfl rfl ?_
      refine WpL.nil ?_
      refine Wp.condD rfl (fun h2 => ?_) (fun h2 => ?_)
      · have hlt : k < (fewS s 60).size := by omega
        refine Wp.skip ?_
        refine Wp.seq ?_
        refine Wp.block ?_
        refine Wp.seq ?_
        apply Wp.drawGA mixed 8 [(4, false), (3, true)] rfl rfl (by kernel_rfl)
        apply GoR.segF [⟨0, 45, _, [], false⟩, ⟨1, 46, _, [], false⟩, ⟨2, 47, _, [], false⟩, ⟨3, 48, _, [1, 2], false⟩] [] [0, 1, 2, 3] [44, 50, 51, 10, 11] rfl rfl rfl (by kernel_rfl) rfl rfl rfl
        · refine AllF.cons rfl rfl rfl rfl ?_ ?_
          · refine s_lda (vs := [_, _, _, _, _, _, _, _, _, _]) rfl rfl rfl (by rfl) ?_
            exact obN rfl
          refine AllF.cons rfl rfl rfl rfl ?_ ?_
          · refine s_mv rfl rfl ?_
            exact obN rfl
          refine AllF.cons rfl rfl rfl rfl ?_ ?_
          · refine s_mv rfl rfl ?_
            exact obN rfl
          refine AllF.cons rfl rfl rfl rfl ?_ ?_
          · refine s_ixs rfl Try.underlying9 rfl rfl (by omega) (by simp; omega) ?_
            exact obN rfl
          exact AllF.nil
        · refine s_callf rfl rfl (by repeat' constructor) (rPut_spec _ _ _ _ _ _ _ _ _ _ _ _ _ _ _ (by omega) (u8_lt _) (by omega) (by omega) (by omega) (by omega) (by omega) (by omega) (by omega) (by omega) (by omega) (by omega) (by omega)) ?_
          rintro _ _ ⟨n2, one2, row2, rows2, last2, e2, out, a1, c1, a2, c2, a3, c3, hs2, rfl, rfl⟩
          simp only [napp]
          refine WpL.nil ⟨rfl, rfl, ?_⟩
          apply GoR.segT [⟨5, 44, _, [4], false⟩, ⟨6, 50, _, [5], false⟩, ⟨7, 51, _, [5], true⟩] [] [5, 6] [11, 51] rfl rfl rfl (by kernel_rfl) rfl rfl rfl rfl
          · refine AllF.cons rfl rfl rfl rfl ?_ ?_
            · refine s_mv rfl rfl ?_
              exact obN rfl
            refine AllF.cons rfl rfl rfl rfl ?_ ?_
            · refine s_ext rfl rfl rfl ?_
              exact obN rfl
            refine AllF.consR rfl rfl rfl rfl ?_ ?_
            · refine s_ext rfl rfl rfl ?_
              exact obN rfl
            exact AllF.nil
          · intro g4
            refine s_sta rfl rfl rfl (by rfl) rfl ?_
            refine WpL.nil ⟨rfl, rfl, ?_⟩
            apply GoR.nil [⟨10, 11, _, [0, 1, 2, 3, 4, 5, 6, 7, 8, 9], false⟩] rfl rfl
            · refine AllF.cons rfl rfl rfl rfl ?_ ?_
              · refine s_as rfl rfl ?_
                exact obN rfl
              exact AllF.nil
            · refine Wp.seq ?_
              refine Wp.region ?_
              refine s_lda (vs := [_, _, _, _, _, _, _, _, _, _]) rfl rfl rfl (by rfl) ?_
              refine s_sta rfl rfl rfl (by rfl) rfl ?_
              refine WpL.nil ?_
              refine Wp.seq ?_
              refine Wp.region ?_
              refine s_mv rfl rfl ?_
              refine s_mv rfl rfl ?_
              refine s_mv rfl rfl ?_
              refine s_ixs rfl Try.underlying9 rfl rfl (by omega) (by simp; omega) ?_
              refine s_callf rfl rfl (by repeat' constructor) (Put_spec _ _ _ _ _ _ _ _ _ _ _ _ _ _ _ _ _ rfl (by omega) (by omega) (by omega) (by omega) (u8_lt _) (by omega) (by omega) (by omega) (by omega)) ?_
              rintro _ _ ⟨n3, one3, row3, rows3, last3, e3, out3, b1, d1, b2, d2, b3, d3, hs3, rfl, rfl⟩
              simp only [napp]
              have hq := hs2.trans hs3.symm
              cases hq
              have hinv2 := (putR_inv (M := M1) (W := W1) (H := H1) (c := (((fewS s 60)[k]'hlt).toNat : Int)) hinv).zero
              have hgd2 := putR_good (M := M1) (H := H1) (c := (((fewS s 60)[k]'hlt).toNat : Int)) (by omega) hgd
              have hs4 : (({ n := n2, one := one2, row := row2, rows := rows2, last := last2, e := e2 } : RS), out) = putR K1 W1 H1 M1 ⟨n, one, row, rows, last, e⟩ (((fewS s 60)[k]'hlt).toNat : Int) := hs2
              rw [← hs4] at hinv2 hgd2
              have hol := (putR_inv (M := M1) (W := W1) (H := H1) (c := (((fewS s 60)[k]'hlt).toNat : Int)) hinv).2.1
              rw [← hs4] at hol
              dsimp only at hol
              refine s_mv rfl rfl ?_
              refine s_ext rfl rfl rfl ?_
              refine s_ext rfl rfl rfl ?_
              refine s_as rfl rfl ?_
              refine s_as rfl rfl ?_
              refine WpL.nil ?_
              refine Wp.seq ?_
              apply Wp.draw mixed [⟨61, _, []⟩, ⟨62, _, []⟩, ⟨63, _, [0, 1]⟩, ⟨64, _, [2]⟩, ⟨65, _, [3, 2]⟩, ⟨66, _, [4]⟩, ⟨67, _, [4]⟩, ⟨68, _, [6, 4]⟩, ⟨69, _, [5, 7, 4]⟩, ⟨70, _, [4, 8]⟩, ⟨71, _, [9, 4]⟩, ⟨72, _, [10]⟩, ⟨73, _, [11, 10]⟩, ⟨74, _, [10]⟩, ⟨75, _, [13, 10]⟩, ⟨76, _, [12, 14, 10]⟩, ⟨77, _, [10, 15]⟩, ⟨78, _, [16, 12]⟩, ⟨79, _, [17]⟩, ⟨80, _, [18, 17]⟩, ⟨81, _, [17]⟩, ⟨82, _, [20, 17]⟩, ⟨83, _, [19, 21, 17]⟩, ⟨84, _, [17, 22]⟩] rfl
              · refine AllObs.mk ?_ ?_
                · refine s_mv rfl rfl ?_
                  exact obN rfl
                refine AllObs.mk ?_ ?_
                · refine s_mv rfl rfl ?_
                  exact obN rfl
                refine AllObs.mk ?_ ?_
                · refine s_callf rfl rfl (by repeat' constructor) (SameRow_spec [_, _] _ _ _ _ _ _ RdsL.own.head RdsL.own.tail (by omega)) ?_
                  rintro _ _ ⟨rfl, rfl⟩
                  simp only [napp]
                  exact WpL.nil ⟨rfl, rfl, rfl, by first | exact Ent.refl _ | exact Ent.nil _ | exact Take.ent' (by repeat' constructor) | (repeat (first | exact Ent.refl _ | refine Ent.drop ?_))⟩
                refine AllObs.mk ?_ ?_
                · refine s_notD rfl rfl ?_
                  exact obN rfl
                refine AllObs.mk ?_ ?_
                · refine s_mv rfl rfl ?_
                  exact obN rfl
                refine AllObs.mk ?_ ?_
                · refine WpL.knowF (dj := 65) rfl (by simp) ?_
                  refine WpL.gon rfl rfl ?_
                  refine s_mv rfl rfl ?_
                  exact obN rfl
                refine AllObs.mk ?_ ?_
                · refine WpL.knowF (dj := 65) rfl (by simp) ?_
                  refine WpL.gon rfl rfl ?_
                  refine s_fa (o2 := 8) rfl rfl rfl ?_
                  exact obN rfl
                refine AllObs.mk ?_ ?_
                · refine WpL.knowF (dj := 65) rfl (by simp) ?_
                  refine WpL.gon rfl rfl ?_
                  refine s_ld rfl rfl (by rfl) ?_
                  exact obN rfl
                refine AllObs.mk ?_ ?_
                · refine WpL.knowF (dj := 65) rfl (by simp) ?_
                  refine WpL.gon rfl rfl ?_
                  refine s_ne rfl rfl rfl ?_
                  exact obN rfl
                refine AllObs.mk ?_ ?_
                · refine WpL.knowF (dj := 65) rfl (by simp) ?_
                  refine s_pickF rfl rfl rfl ?_
                  exact obN rfl
                refine AllObs.mk ?_ ?_
                · refine s_mv rfl rfl ?_
                  exact obN rfl
                refine AllObs.mk ?_ ?_
                · refine WpL.knowF (dj := 71) rfl (by simp) ?_
                  refine WpL.gon rfl rfl ?_
                  refine s_mv rfl rfl ?_
                  exact obN rfl
                refine AllObs.mk ?_ ?_
                · refine WpL.knowF (dj := 71) rfl (by simp) ?_
                  refine WpL.gon rfl rfl ?_
                  refine s_callf rfl rfl (by repeat' constructor) (Rows_spec _ _ _ _ _ _ _ _ _ _ _ _ _ _ _ _) ?_
                  rintro _ _ ⟨rfl, rfl⟩
                  simp only [napp]
                  exact WpL.nil ⟨rfl, rfl, rfl, by first | exact Ent.refl _ | exact Ent.nil _ | exact Take.ent' (by repeat' constructor) | (repeat (first | exact Ent.refl _ | refine Ent.drop ?_))⟩
                refine AllObs.mk ?_ ?_
                · refine WpL.knowF (dj := 71) rfl (by simp) ?_
                  refine WpL.gon rfl rfl ?_
                  refine s_fa (o2 := 7) rfl rfl rfl ?_
                  exact obN rfl
                refine AllObs.mk ?_ ?_
                · refine WpL.knowF (dj := 71) rfl (by simp) ?_
                  refine WpL.gon rfl rfl ?_
                  refine s_ld rfl rfl (by rfl) ?_
                  exact obN rfl
                refine AllObs.mk ?_ ?_
                · refine WpL.knowF (dj := 71) rfl (by simp) ?_
                  refine WpL.gon rfl rfl ?_
                  refine s_ne rfl rfl rfl ?_
                  exact obN rfl
                refine AllObs.mk ?_ ?_
                · refine WpL.knowF (dj := 71) rfl (by simp) ?_
                  refine s_pickF rfl rfl rfl ?_
                  exact obN rfl
                refine AllObs.mk ?_ ?_
                · refine s_mv rfl rfl ?_
                  exact obN rfl
                refine AllObs.mk ?_ ?_
                · refine WpL.knowF (dj := 78) rfl (by simp) ?_
                  refine WpL.gon rfl rfl ?_
                  refine s_mv rfl rfl ?_
                  exact obN rfl
                refine AllObs.mk ?_ ?_
                · refine WpL.knowF (dj := 78) rfl (by simp) ?_
                  refine WpL.gon rfl rfl ?_
                  refine s_callf rfl rfl (by repeat' constructor) (Error_spec _ _ _ _ _ _ _ _ _ _ _ _ _ _ _ _) ?_
                  rintro _ _ ⟨rfl, rfl⟩
                  simp only [napp]
                  exact WpL.nil ⟨rfl, rfl, rfl, by first | exact Ent.refl _ | exact Ent.nil _ | exact Take.ent' (by repeat' constructor) | (repeat (first | exact Ent.refl _ | refine Ent.drop ?_))⟩
                refine AllObs.mk ?_ ?_
                · refine WpL.knowF (dj := 78) rfl (by simp) ?_
                  refine WpL.gon rfl rfl ?_
                  refine s_fa (o2 := 9) rfl rfl rfl ?_
                  exact obN rfl
                refine AllObs.mk ?_ ?_
                · refine WpL.knowF (dj := 78) rfl (by simp) ?_
                  refine WpL.gon rfl rfl ?_
                  refine s_ld rfl rfl (by rfl) ?_
                  exact obN rfl
                refine AllObs.mk ?_ ?_
                · refine WpL.knowF (dj := 78) rfl (by simp) ?_
                  refine WpL.gon rfl rfl ?_
                  refine s_ne rfl rfl rfl ?_
                  exact obN rfl
                refine AllObs.mk ?_ ?_
                · refine WpL.knowF (dj := 78) rfl (by simp) ?_
                  refine s_pickF rfl rfl rfl ?_
                  exact obN rfl
                exact AllObs.nil
              · refine Wp.condDF rfl (by simp) ?_
                refine Wp.skip ?_
                refine Wp.region ?_
                refine s_mv rfl rfl ?_
                first | refine s_add rfl rfl rfl (w_i64 (by omega) (by omega)) ?_ | refine s_addw rfl rfl rfl ?_
                refine s_as rfl rfl ?_
                refine WpL.nil ?_
                refine loopD.next (⟨k + 1, n2, one2, row2, rows2, last2, e2, a1, c1, a2, c2, b1, d1, b2, d2⟩ : StX) ?_ ?_ (by repeat (first | exact Top.refl | refine Top.push rfl ?_ | refine Top.drop rfl ?_)) (by repeat (first | exact FrLe.nil | refine FrLe.cons rfl ?_)) ?_
                · exact ⟨by simp only; omega, hinv2, hgd2⟩
                · simp only; omega
                · first | exact Ent.refl _ | exact Ent.nil _ | exact Take.ent' (by repeat' constructor) | (repeat (first | exact Ent.refl _ | refine Ent.drop ?_))
      · refine Wp.exit ?_
        refine Wp.seq ?_
        refine Wp.seq ?_
        refine Wp.region ?_
        refine s_as rfl rfl ?_
        refine WpL.nil ?_
        refine Wp.block ?_
        refine Wp.loopD (σ := StX) (fun x => x.k ≤ 2 ∧ RInv (chK K1) ((fewS s 60).size + x.k) 0 ⟨x.n, x.one, x.row, x.rows, x.last, x.e⟩ ∧ RGood K1 W1 ⟨x.n, x.one, x.row, x.rows, x.last, x.e⟩ ∧ (x.k = 0 ∨ x.last ≠ 0)) [4, 14, 15, 16, 17, 18, 85, 86, 87, 88, 89, 90, 91, 92, 93, 94, 95, 96, 97, 98, 99, 100, 101, 102, 103, 104, 105, 106, 107, 108, 109, 110, 111, 112, 113, 114, 115, 116, 117, 118, 119, 120, 121, 122, 123] (fun x => [(14, .int .i64 (x.k : Int))]) (fun x => [blk gR [.int .i64 K1, .int .i64 W1, .int .i64 H1, .int .i64 M1, .int .i64 x.n, .slice x.a1 x.one.length x.c1, .slice x.a2 x.row.length x.c2, .int .i64 x.rows, .int .i64 x.last, .int .i64 x.e] 49, own 3 1 x.a1 x.c1 x.one.length (ints x.one), own 62 1 x.a2 x.c2 x.row.length (pxs x.row), blk g [.int .i64 K1, .int .i64 W1, .int .i64 H1, .int .i64 M1, stpOf K1, .int .i64 x.n, .slice x.b1 x.one.length x.d1, .slice x.b2 x.row.length x.d2, .int .i64 x.rows, .int .i64 x.last, .int .i64 x.e] 73, own 3 1 x.b1 x.d1 x.one.length (ints x.one), own 62 1 x.b2 x.d2 x.row.length (pxs x.row)]) (fun x => 2 - x.k) ⟨0, n, one, row, rows, last, e, a1, c1, a2, c2, b1, d1, b2, d2⟩ ?_ (by repeat (first | exact FrLe.nil | refine FrLe.cons rfl ?_)) ?_ ?_
        · exact ⟨Nat.zero_le _, by simp only; rw [show (fewS s 60).size + 0 = k by omega]; exact hinv, hgd, .inl rfl⟩
        · first | exact Ent.refl _ | exact Ent.nil _ | exact Take.ent' (by repeat' constructor) | (repeat (first | exact Ent.refl _ | refine Ent.drop ?_))
        · rintro ⟨k, n, one, row, rows, last, e, a1, c1, a2, c2, b1, d1, b2, d2⟩ ⟨hk, hinv, hgd, hll⟩
          dsimp only at hk hinv hgd hll ⊢
          have hch := chK_pos K1
          have hin := hinv
          obtain ⟨hi1, hi2, hi3, hi4⟩ := hin
          dsimp only at hi1 hi2 hi3 hi4
          have hg2 := hgd
          obtain ⟨hgn, hgk, hgr⟩ := hg2
          dsimp only at hgn hgk hgr
          refine Wp.seq ?_
          refine Wp.seq ?_
          refine Wp.region ?_
          refine s_mv rfl rfl ?_
          refine s_lt rfl rfl rfl ?_
          refine WpL.nil ?_
          refine Wp.condD rfl (fun h5 => ?_) (fun h5 => ?_)
          · refine Wp.skip ?_
            refine Wp.seq ?_
            refine Wp.block ?_
            refine Wp.seq ?_
            refine Wp.region ?_
            refine s_lda (vs := [_, _, _, _, _, _, _, _, _, _]) rfl rfl rfl (by rfl) ?_
            refine s_callf rfl rfl (by repeat' constructor) (rEnd_spec _ _ _ _ _ _ _ _ _ _ _ _ _ _ (by omega) (by omega) (by omega) (by omega) (by omega) (by omega) (by omega) (by omega) (by omega) (by omega) (by omega)) ?_
            rintro _ _ ⟨n2, one2, row2, rows2, last2, e2, out, a1, c1, a2, c2, a3, c3, hs2, rfl, rfl⟩
            simp only [napp]
            refine s_mv rfl rfl ?_
            refine s_ext rfl rfl rfl ?_
            refine s_ext rfl rfl rfl ?_
            refine s_al rfl ?_
            intro g5
            refine s_sta rfl rfl rfl (by rfl) rfl ?_
            refine s_as rfl rfl ?_
            refine WpL.nil ?_
            refine Wp.seq ?_
            refine Wp.region ?_
            refine s_lda (vs := [_, _, _, _, _, _, _, _, _, _]) rfl rfl rfl (by rfl) ?_
            refine s_sta rfl rfl rfl (by rfl) rfl ?_
            refine WpL.nil ?_
            refine Wp.seq ?_
            refine Wp.region ?_
            refine s_mv rfl rfl ?_
            refine s_callf rfl rfl (by repeat' constructor) (End_spec _ _ _ _ _ _ _ _ _ _ _ _ _ _ _ _ (by omega) (by omega) (by omega) (by omega) (by omega)) ?_
            rintro _ _ ⟨n3, one3, row3, rows3, last3, e3, out3, b1, d1, b2, d2, b3, d3, hs3, rfl, rfl⟩
            simp only [napp]
            have hq := hs2.trans hs3.symm
            cases hq
            have hinv2 := endR_inv (W := W1) (H := H1) hinv
            have hgd2 := endR_good (H := H1) (by omega) hgd
            have hll2 := endR_last (K := K1) (W := W1) (H := H1) (s := ⟨n, one, row, rows, last, e⟩)
            have hol := endR_out (W := W1) (H := H1) hinv
            rw [← hs2] at hinv2 hgd2 hll2 hol
            dsimp only at hol hll2
            refine s_mv rfl rfl ?_
            refine s_ext rfl rfl rfl ?_
            refine s_ext rfl rfl rfl ?_
            refine s_as rfl rfl ?_
            refine s_as rfl rfl ?_
            refine WpL.nil ?_
            refine Wp.seq ?_
            apply Wp.draw mixed [⟨100, _, []⟩, ⟨101, _, []⟩, ⟨102, _, [0, 1]⟩, ⟨103, _, [2]⟩, ⟨104, _, [3, 2]⟩, ⟨105, _, [4]⟩, ⟨106, _, [4]⟩, ⟨107, _, [6, 4]⟩, ⟨108, _, [5, 7, 4]⟩, ⟨109, _, [4, 8]⟩, ⟨110, _, [9, 4]⟩, ⟨111, _, [10]⟩, ⟨112, _, [11, 10]⟩, ⟨113, _, [10]⟩, ⟨114, _, [13, 10]⟩, ⟨115, _, [12, 14, 10]⟩, ⟨116, _, [10, 15]⟩, ⟨117, _, [16, 12]⟩, ⟨118, _, [17]⟩, ⟨119, _, [18, 17]⟩, ⟨120, _, [17]⟩, ⟨121, _, [20, 17]⟩, ⟨122, _, [19, 21, 17]⟩, ⟨123, _, [17, 22]⟩] rfl
            · refine AllObs.mk ?_ ?_
              · refine s_mv rfl rfl ?_
                exact obN rfl
              refine AllObs.mk ?_ ?_
              · refine s_mv rfl rfl ?_
                exact obN rfl
              refine AllObs.mk ?_ ?_
              · refine s_callf rfl rfl (by repeat' constructor) (SameRow_spec [_, _] _ _ _ _ _ _ RdsL.own.head RdsL.own.tail (by omega)) ?_
                rintro _ _ ⟨rfl, rfl⟩
                simp only [napp]
                exact WpL.nil ⟨rfl, rfl, rfl, by first | exact Ent.refl _ | exact Ent.nil _ | exact Take.ent' (by repeat' constructor) | (repeat (first | exact Ent.refl _ | refine Ent.drop ?_))⟩
              refine AllObs.mk ?_ ?_
              · refine s_notD rfl rfl ?_
                exact obN rfl
              refine AllObs.mk ?_ ?_
              · refine s_mv rfl rfl ?_
                exact obN rfl
              refine AllObs.mk ?_ ?_
              · refine WpL.knowF (dj := 104) rfl (by simp) ?_
                refine WpL.gon rfl rfl ?_
                refine s_mv rfl rfl ?_
                exact obN rfl
              refine AllObs.mk ?_ ?_
              · refine WpL.knowF (dj := 104) rfl (by simp) ?_
                refine WpL.gon rfl rfl ?_
                refine s_fa (o2 := 8) rfl rfl rfl ?_
                exact obN rfl
              refine AllObs.mk ?_ ?_
              · refine WpL.knowF (dj := 104) rfl (by simp) ?_
                refine WpL.gon rfl rfl ?_
                refine s_ld rfl rfl (by rfl) ?_
                exact obN rfl
              refine AllObs.mk ?_ ?_
              · refine WpL.knowF (dj := 104) rfl (by simp) ?_
                refine WpL.gon rfl rfl ?_
                refine s_ne rfl rfl rfl ?_
                exact obN rfl
              refine AllObs.mk ?_ ?_
              · refine WpL.knowF (dj := 104) rfl (by simp) ?_
                refine s_pickF rfl rfl rfl ?_
                exact obN rfl
              refine AllObs.mk ?_ ?_
              · refine s_mv rfl rfl ?_
                exact obN rfl
              refine AllObs.mk ?_ ?_
              · refine WpL.knowF (dj := 110) rfl (by simp) ?_
                refine WpL.gon rfl rfl ?_
                refine s_mv rfl rfl ?_
                exact obN rfl
              refine AllObs.mk ?_ ?_
              · refine WpL.knowF (dj := 110) rfl (by simp) ?_
                refine WpL.gon rfl rfl ?_
                refine s_callf rfl rfl (by repeat' constructor) (Rows_spec _ _ _ _ _ _ _ _ _ _ _ _ _ _ _ _) ?_
                rintro _ _ ⟨rfl, rfl⟩
                simp only [napp]
                exact WpL.nil ⟨rfl, rfl, rfl, by first | exact Ent.refl _ | exact Ent.nil _ | exact Take.ent' (by repeat' constructor) | (repeat (first | exact Ent.refl _ | refine Ent.drop ?_))⟩
              refine AllObs.mk ?_ ?_
              · refine WpL.knowF (dj := 110) rfl (by simp) ?_
                refine WpL.gon rfl rfl ?_
                refine s_fa (o2 := 7) rfl rfl rfl ?_
                exact obN rfl
              refine AllObs.mk ?_ ?_
              · refine WpL.knowF (dj := 110) rfl (by simp) ?_
                refine WpL.gon rfl rfl ?_
                refine s_ld rfl rfl (by rfl) ?_
                exact obN rfl
              refine AllObs.mk ?_ ?_
              · refine WpL.knowF (dj := 110) rfl (by simp) ?_
                refine WpL.gon rfl rfl ?_
                refine s_ne rfl rfl rfl ?_
                exact obN rfl
              refine AllObs.mk ?_ ?_
              · refine WpL.knowF (dj := 110) rfl (by simp) ?_
                refine s_pickF rfl rfl rfl ?_
                exact obN rfl
              refine AllObs.mk ?_ ?_
              · refine s_mv rfl rfl ?_
                exact obN rfl
              refine AllObs.mk ?_ ?_
              · refine WpL.knowF (dj := 117) rfl (by simp) ?_
                refine WpL.gon rfl rfl ?_
                refine s_mv rfl rfl ?_
                exact obN rfl
              refine AllObs.mk ?_ ?_
              · refine WpL.knowF (dj := 117) rfl (by simp) ?_
                refine WpL.gon rfl rfl ?_
                refine s_callf rfl rfl (by repeat' constructor) (Error_spec _ _ _ _ _ _ _ _ _ _ _ _ _ _ _ _) ?_
                rintro _ _ ⟨rfl, rfl⟩
                simp only [napp]
                exact WpL.nil ⟨rfl, rfl, rfl, by first | exact Ent.refl _ | exact Ent.nil _ | exact Take.ent' (by repeat' constructor) | (repeat (first | exact Ent.refl _ | refine Ent.drop ?_))⟩
              refine AllObs.mk ?_ ?_
              · refine WpL.knowF (dj := 117) rfl (by simp) ?_
                refine WpL.gon rfl rfl ?_
                refine s_fa (o2 := 9) rfl rfl rfl ?_
                exact obN rfl
              refine AllObs.mk ?_ ?_
              · refine WpL.knowF (dj := 117) rfl (by simp) ?_
                refine WpL.gon rfl rfl ?_
                refine s_ld rfl rfl (by rfl) ?_
                exact obN rfl
              refine AllObs.mk ?_ ?_
              · refine WpL.knowF (dj := 117) rfl (by simp) ?_
                refine WpL.gon rfl rfl ?_
                refine s_ne rfl rfl rfl ?_
                exact obN rfl
              refine AllObs.mk ?_ ?_
              · refine WpL.knowF (dj := 117) rfl (by simp) ?_
                refine s_pickF rfl rfl rfl ?_
                exact obN rfl
              exact AllObs.nil
            · refine Wp.condDF rfl (by simp) ?_
              refine Wp.skip ?_
              refine Wp.region ?_
              refine s_mv rfl rfl ?_
              first | refine s_add rfl rfl rfl (w_i64 (by omega) (by omega)) ?_ | refine s_addw rfl rfl rfl ?_
              refine s_as rfl rfl ?_
              refine WpL.nil ?_
              refine loopD.next (⟨k + 1, n2, one2, row2, rows2, last2, e2, a1, c1, a2, c2, b1, d1, b2, d2⟩ : StX) ?_ ?_ (by repeat (first | exact Top.refl | refine Top.push rfl ?_ | refine Top.drop rfl ?_)) (by repeat (first | exact FrLe.nil | refine FrLe.cons rfl ?_)) ?_
              · exact ⟨by simp only; omega, by simp only; rw [← Nat.add_assoc]; exact hinv2, hgd2, .inr hll2⟩
              · simp only; omega
              · first | exact Ent.refl _ | exact Ent.nil _ | exact Take.ent' (by repeat' constructor) | (repeat (first | exact Ent.refl _ | refine Ent.drop ?_))
          · have hll2 : last ≠ 0 := by omega
            refine Wp.exit ?_
            refine Wp.seq ?_
            refine Wp.region ?_
            refine s_mv rfl rfl ?_
            refine s_callf rfl rfl (by repeat' constructor) (Put_spec _ _ _ _ _ _ _ _ _ _ _ _ _ _ _ _ 48 rfl (by omega) (by omega) (by omega) (by omega) (by omega) (by omega) (by omega) (by omega) (by omega)) ?_
            rintro _ _ ⟨n3, one3, row3, rows3, last3, e3, out3, b1, d1, b2, d2, b3, d3, hs3, rfl, rfl⟩
            simp only [napp]
            rw [putQ0 hll2] at hs3
            cases hs3
            refine s_mv rfl rfl ?_
            refine s_ext rfl rfl rfl ?_
            refine s_ext rfl rfl rfl ?_
            refine s_as rfl rfl ?_
            refine s_as rfl rfl ?_
            refine WpL.nil ?_
            refine Wp.seq ?_
            refine Wp.region ?_
            refine s_mv rfl rfl ?_
            refine s_fa (o2 := 8) rfl rfl rfl ?_
            refine s_ld rfl rfl (by rfl) ?_
            refine s_eq rfl rfl rfl ?_
            refine s_mv rfl rfl ?_
            refine WpL.knowT (dj := 133) rfl (by simp) ?_
            refine WpL.gon rfl rfl ?_
            refine s_mv rfl rfl ?_
            refine WpL.gon rfl rfl ?_
            refine s_ne rfl rfl rfl ?_
            refine s_pickT rfl rfl rfl ?_
            refine s_mv rfl rfl ?_
            refine WpL.knowT (dj := 137) rfl (by simpa using hll2) ?_
            refine WpL.gon rfl rfl ?_
            refine s_callf rfl rfl (by repeat' constructor) (lives_spec) ?_
            rintro _ _ ⟨rfl, rfl⟩
            simp only [napp]
            refine s_pickT rfl rfl rfl ?_
            refine s_as rfl rfl ?_
            refine WpL.nil ?_
            refine Wp.ret ?_
            apply RetQ.mk
            · exact (Res.one rfl rfl)
            · exact ⟨rfl, rfl⟩
            · first | exact Ent.refl _ | exact Ent.nil _ | exact Take.ent' (by repeat' constructor) | (repeat (first | exact Ent.refl _ | refine Ent.drop ?_))
  · simp only [napp]
    exfalso
    exact hP hPH

end Go.Proofs.Ytoiecgmnnjipfaa
