/- Walks. -/
import Derived.Test.YtpoahaadnbdgcaaRw6
namespace Go.Proofs.Ytpoahaadnbdgcaa
open Go.RowKit Go.Shelf


theorem row_putU {A R : List Int} {n st N : Nat} (hA : A.length = st * n) (hR : R.length = st) (hN : st * (n + 1) ≤ N) : (u8s (A ++ zs (N - st * n))).take (st * n) ++ u8s R ++ (u8s (A ++ zs (N - st * n))).drop (st * n + st) = u8s ((A ++ R) ++ zs (N - st * (n + 1))) := by
  rw [← row_put hA hR hN]
  simp [u8s, List.map_take, List.map_drop]
theorem wrap_u8 (x : Int) : IntKind.u8.wrap x = x % 256 := by simp [IntKind.wrap, IntKind.bits, IntKind.signed]
theorem encS1 (x : Int) : encS 1 x = [x] := rfl
theorem encS2 (x : Int) : encS 2 x = [x / 256, x % 256] := rfl

set_option maxHeartbeats 2000000 in
theorem RawWrite_a (A0 : HP) (a0 : Option Addr) (c0 : Nat) (px : List Int) (hA : RdsL [A0] a0 (pxs px)) (hr : ∀ p ∈ px, 0 ≤ p ∧ p < 18446744073709551616) (hc : px.length ≤ c0) (K : Int) (W Hn : Nat) (M : Int) (hR : RawH K (W : Int) (Hn : Int) M) (hpl : px.length = W * Hn) (hfit : ∀ p ∈ px, FitP p (chK K) M) (hK : K = 4) : Fn Try.prog 6 #[.slice a0 px.length c0, .agg #[.int .i64 K, .int .i64 (W : Int), .int .i64 (Hn : Int), .int .i64 M]] [A0] (fun v l => ∃ a c, v = .tuple #[.slice a (wrRaw K W (wideM M) px Hn).length c, .int .i64 0] ∧ (wrRaw K W (wideM M) px Hn).length ≤ c ∧ l = [own 5 1 a c (wrRaw K W (wideM M) px Hn).length (u8s (wrRaw K W (wideM M) px Hn)), A0]) := by
  have hb := hR.bd
  have hch := chK_13 K
  have hw := wideM_or M
  have hsb := strd_bd (K := K) (W := W) hw (by omega) (by omega)
  have hWH : W * Hn ≤ 4096 * 65536 := Nat.mul_le_mul (by omega) (by omega)
  have hWHi : (W : Int) * (Hn : Int) = ((W * Hn : Nat) : Int) := by push_cast; rfl
  obtain ⟨st, hstd⟩ : ∃ st, st = strd K W (wideM M) := ⟨_, rfl⟩
  rw [← hstd] at hsb
  have hN : st * Hn ≤ 24576 * 65536 := Nat.mul_le_mul (by omega) (by omega)
  have hul : ∀ p ∈ px, (unpackS p).length = (chK K).toNat := fun p hp => by have := can_fit (hfit p hp); omega
  refine Fn.intro (vs := [.slice a0 px.length c0, .agg #[.int .i64 K, .int .i64 (W : Int), .int .i64 (Hn : Int), .int .i64 M]]) Try.func6 rfl Try.ntmps6 rfl ?_
  refine Wp.seq ?_
  refine Wp.region ?_
  refine s_box rfl rfl rfl ?_
  intro g1
  refine s_as rfl rfl ?_
  refine s_as rfl rfl ?_
  refine WpL.nil ?_
  refine Wp.seq ?_
  refine Wp.region ?_
  refine s_lda (vs := [_, _, _, _]) rfl rfl rfl (by rfl) ?_
  refine s_callf rfl rfl (by repeat' constructor) (Format_spec _ _ _ _ (by omega)) ?_
  rintro _ _ ⟨rfl, rfl⟩
  simp only [napp]
  rw [show (if K % 3 = 0 then (3 : Int) else 1) = chK K from rfl]
  refine s_al rfl ?_
  intro gF
  refine s_sta rfl rfl rfl (by rfl) rfl ?_
  refine WpL.nil ?_
  refine Wp.seq ?_
  refine Wp.region ?_
  refine s_mkf rfl (fun a hh => evs_map hh _ _ rfl) ?_
  refine s_as rfl rfl ?_
  refine WpL.nil ?_
  refine Wp.seq ?_
  refine Wp.seq ?_
  refine Wp.region ?_
  refine s_lda (vs := [_, _, _, _]) rfl rfl rfl (by rfl) ?_
  refine s_callf rfl rfl (by repeat' constructor) (RawNew_spec _ _ _ _ hR) ?_
  rintro _ _ ⟨gR, gB, b0, hb0, hb0z, rfl, rfl⟩
  simp only [napp]
  refine s_mv rfl rfl ?_
  refine s_ext rfl rfl rfl ?_
  refine s_ext rfl rfl rfl ?_
  refine s_as rfl rfl ?_
  refine s_as rfl rfl ?_
  refine WpL.nil ?_
  refine Wp.seq ?_
  refine Wp.region ?_
  refine s_mv rfl rfl ?_
  refine s_ne rfl rfl rfl ?_
  refine s_mv rfl rfl ?_
  refine WpL.knowF (dj := 28) rfl (by decide) ?_
  refine WpL.gon rfl rfl ?_
  refine s_mv rfl rfl ?_
  refine WpL.gon rfl rfl ?_
  refine s_lenl rfl rfl ?_
  refine WpL.gon rfl rfl ?_
  refine s_fa (o2 := 1) rfl rfl rfl ?_
  refine WpL.gon rfl rfl ?_
  refine s_ld rfl rfl (by rfl) ?_
  refine WpL.gon rfl rfl ?_
  refine s_fa (o2 := 2) rfl rfl rfl ?_
  refine WpL.gon rfl rfl ?_
  refine s_ld rfl rfl (by rfl) ?_
  refine WpL.gon rfl rfl ?_
  refine s_mul rfl rfl rfl (w_i64 (by omega) (by omega)) ?_
  rw [hWHi]
  refine WpL.gon rfl rfl ?_
  refine s_ne rfl rfl rfl ?_
  refine s_pickF rfl rfl rfl ?_
  refine s_mv rfl rfl ?_
  refine WpL.knowF (dj := 38) rfl (decide_eq_false (fun h => h (by omega))) ?_
  refine WpL.gon rfl rfl ?_
  refine s_mv rfl rfl ?_
  refine WpL.gon rfl rfl ?_
  refine s_mv rfl rfl ?_
  refine WpL.gon rfl rfl ?_
  refine s_callf rfl rfl (by repeat' constructor) (ContainsOddR_spec A0 a0 c0 px hA hr (by omega) gF (chK K) M) ?_
  rintro _ _ ⟨rfl, rfl⟩
  simp only [napp]
  refine s_pickF rfl rfl rfl ?_
  refine WpL.nil ?_
  refine Wp.condDF rfl (fun h => h hfit) ?_
  refine Wp.skip ?_
  refine Wp.seq ?_
  refine Wp.region ?_
  refine s_lda (vs := [_, _, _, _]) rfl rfl rfl (by rfl) ?_
  refine s_callf rfl rfl (by repeat' constructor) (Size_spec _ _ _ _ hR) ?_
  rintro _ _ ⟨rfl, rfl⟩
  simp only [napp]
  rw [← hstd]
  refine s_mko (st * Hn) rfl rfl rfl (by omega) (by omega) rfl ?_
  intro gO
  rw [u8s_zero, show List.replicate (st * Hn) (0 : Int) = wrRaw K W (wideM M) px 0 ++ zs (st * Hn - st * 0) from rfl]
  refine s_as rfl rfl ?_
  refine WpL.nil ?_
  refine Wp.seq ?_
  refine Wp.seq ?_
  refine Wp.region ?_
  refine s_fa (o2 := 2) rfl rfl rfl ?_
  refine s_ld rfl rfl (by rfl) ?_
  refine s_mv rfl rfl ?_
  refine WpL.nil ?_
  refine Wp.block ?_
  refine Wp.loopD (σ := WyX) (fun x => x.y ≤ Hn) [11, 12, 13, 15, 17, 48, 49, 50, 51, 52, 53, 54, 55, 56, 57, 58, 59, 60, 61, 62, 63, 64, 65, 66, 67, 68, 69, 70, 71, 72, 73, 74, 75, 76, 77, 78, 79, 80, 81, 82, 83, 84, 85, 86, 87, 88, 89, 90, 91, 92, 93, 94, 95, 96, 97, 98, 99, 100, 101, 102, 103, 104, 105, 106, 107, 108, 109, 110, 111, 112, 113, 114, 115, 116] (fun x => [(48, .int .i64 (x.y : Int))]) (fun x => [own 5 1 (some ⟨gO, 0, none⟩) (st * Hn) (st * Hn) (u8s (wrRaw K W (wideM M) px x.y ++ zs (st * Hn - st * x.y))), blk g1 [.int .i64 K, .int .i64 (W : Int), .int .i64 (Hn : Int), .int .i64 M] 32, A0]) (fun x => Hn - x.y) ⟨0⟩ ?_ (by repeat (first | exact FrLe.nil | refine FrLe.cons rfl ?_)) ?_ ?_
  · exact Nat.zero_le _
  · first | exact Ent.refl _ | exact Ent.nil _ | exact Take.ent' (by repeat' constructor) | (repeat (first | exact Ent.refl _ | refine Ent.drop ?_))
  · rintro ⟨y⟩ hy
    dsimp only at hy ⊢
    refine Wp.seq ?_
    refine Wp.region ?_
    refine s_lt rfl rfl rfl ?_
    refine WpL.nil ?_
    refine Wp.seq ?_
    refine Wp.condD rfl (fun h2 => ?_) (fun h2 => ?_)
    · have hlt : y < Hn := by omega
      have hkW : (y + 1) * W = y * W + W := by rw [Nat.add_mul, Nat.one_mul]
      have hkW2 : (y + 1) * W ≤ Hn * W := Nat.mul_le_mul_right _ hlt
      rw [Nat.mul_comm Hn W] at hkW2
      have ei1 : (y : Int) * (W : Int) = ((y * W : Nat) : Int) := by push_cast; rfl
      have ei2 : ((y : Int) + 1) * (W : Int) = (((y + 1) * W : Nat) : Int) := by push_cast; rfl
      have hyN : st * (y + 1) ≤ st * Hn := Nat.mul_le_mul_left _ hlt
      have hyS : st * (y + 1) = st * y + st := by rw [Nat.mul_add, Nat.mul_one]
      have hyst : (y : Int) * (st : Int) = ((st * y : Nat) : Int) := by push_cast; rw [Int.mul_comm]
      refine Wp.skip ?_
      refine Wp.seq ?_
      refine Wp.block ?_
      refine Wp.seq ?_
      refine Wp.region ?_
      refine s_mv rfl rfl ?_
      refine s_as rfl rfl ?_
      refine WpL.nil ?_
      refine Wp.seq ?_
      refine Wp.region ?_
      refine s_as rfl rfl ?_
      refine WpL.nil ?_
      refine Wp.seq ?_
      refine Wp.region ?_
      refine s_as rfl rfl ?_
      refine WpL.nil ?_
      refine Wp.seq ?_
      refine Wp.seq ?_
      refine Wp.region ?_
      refine s_mv rfl rfl ?_
      refine s_mv rfl rfl ?_
      refine s_fa (o2 := 1) rfl rfl rfl ?_
      refine s_ld rfl rfl (by rfl) ?_
      refine s_mul rfl rfl rfl (w_i64 (by omega) (by omega)) ?_
      rw [ei1]
      refine s_mv rfl rfl ?_
      first | refine s_add rfl rfl rfl (w_i64 (by omega) (by omega)) ?_ | refine s_addw rfl rfl rfl ?_
      refine s_fa (o2 := 1) rfl rfl rfl ?_
      refine s_ld rfl rfl (by rfl) ?_
      refine s_mul rfl rfl rfl (w_i64 (by omega) (by omega)) ?_
      rw [ei2]
      refine s_sll_lh (L := y * W) (H := (y + 1) * W) rfl rfl rfl rfl rfl rfl (by omega) (by omega) ?_
      refine s_lenl rfl rfl ?_
      refine s_mv rfl rfl ?_
      refine WpL.nil ?_
      refine Wp.block ?_
      have hRw := hA.sla (y * W) ((y + 1) * W) c0 1 (by omega)
      rw [pxs_sub] at hRw
      rw [show (y + 1) * W - y * W = W by omega] at hRw ⊢
      obtain ⟨row, hrow⟩ : ∃ row, row = (px.drop (y * W)).take W := ⟨_, rfl⟩
      have hrl : row.length = W := by rw [hrow, List.length_take, List.length_drop]; omega
      have hrp : ∀ p ∈ row, p ∈ px := fun p hp => by rw [hrow] at hp; exact List.mem_of_mem_drop (List.mem_of_mem_take hp)
      rw [← hrow] at hRw
      refine Wp.loopD (σ := WjX) (fun z => z.j ≤ W ∧ z.m = ((row.take z.j).flatMap unpackS).length) [13, 15, 63, 64, 65, 66, 67, 68, 69, 70, 71] (fun z => [(63, .int .i64 (z.j : Int)), (13, .slice z.a z.m z.c)]) (fun z => [own 3 1 z.a z.c z.m (ints ((row.take z.j).flatMap unpackS)), own 5 1 (some ⟨gO, 0, none⟩) (st * Hn) (st * Hn) (u8s (wrRaw K W (wideM M) px y ++ zs (st * Hn - st * y))), blk g1 [.int .i64 K, .int .i64 (W : Int), .int .i64 (Hn : Int), .int .i64 M] 32, A0]) (fun z => W - z.j) ⟨0, none, 0, 0⟩ ?_ (by repeat (first | exact FrLe.nil | refine FrLe.cons rfl ?_)) ?_ ?_
      · exact ⟨Nat.zero_le _, rfl⟩
      · exact Ent.own_nil (T := 3) (s := 1) (Ent.refl _)
      · rintro ⟨j, aR, cR, m⟩ ⟨hj, hm⟩
        dsimp only at hj hm ⊢
        have hml := flat_le (row.take j)
        rw [← hm, List.length_take] at hml
        refine Wp.seq ?_
        refine Wp.region ?_
        refine s_lt rfl rfl rfl ?_
        refine WpL.nil ?_
        refine Wp.seq ?_
        refine Wp.condD rfl (fun h4 => ?_) (fun h4 => ?_)
        · have hlj : j < row.length := by omega
          have hpp := hrp _ (List.getElem_mem hlj)
          have hpb := hr _ hpp
          have hun := hul _ hpp
          have hul3 := unpackS_len (row[j]'hlj)
          refine Wp.skip ?_
          refine Wp.seq ?_
          refine Wp.block ?_
          refine Wp.seq ?_
          refine Wp.region ?_
          refine s_ixa j rfl rfl rfl hRw (by first | exact Take.ent' (by repeat' constructor) | (repeat (first | exact Ent.refl _ | refine Ent.drop ?_))) rfl (by omega) (by rw [pxs_len]; omega) ?_
          refine s_ldx rfl rfl hRw (by first | exact Take.ent' (by repeat' constructor) | (repeat (first | exact Ent.refl _ | refine Ent.drop ?_))) (pxs_at row hlj) ?_
          refine s_as rfl rfl ?_
          refine WpL.nil ?_
          refine Wp.region ?_
          refine s_mv rfl rfl ?_
          refine s_mv rfl rfl ?_
          refine s_callf rfl rfl (by repeat' constructor) (Unpack_spec _ hpb.1 hpb.2) ?_
          rintro _ _ ⟨A1, a1, c1, rfl, rfl, hA1, hn1⟩
          simp only [napp]
          refine s_appr rfl rfl rfl (by repeat' constructor) hA1 (by first | exact Take.ent' (by repeat' constructor) | (repeat (first | exact Ent.refl _ | refine Ent.drop ?_))) (ints_ne (fun e => by rw [e] at hun; simp at hun; omega)) (by rw [ints_len, Nat.mul_one]) (by rfl) (by rfl) (ints_one _) (by omega) (by omega) ?_
          intro a70 c70
          rw [ints_app, flat_snoc hlj]
          refine s_as rfl rfl ?_
          refine WpL.nil ?_
          refine Wp.region ?_
          first | refine s_add rfl rfl rfl (w_i64 (by omega) (by omega)) ?_ | refine s_addw rfl rfl rfl ?_
          refine s_mv rfl rfl ?_
          refine WpL.nil ?_
          refine loopD.next (⟨j + 1, a70, c70, m + (unpackS (row[j]'hlj)).length⟩ : WjX) ?_ ?_ (by repeat (first | exact Top.refl | refine Top.push rfl ?_ | refine Top.drop rfl ?_)) (by repeat (first | exact FrLe.nil | refine FrLe.cons rfl ?_)) ?_
          · exact ⟨by simp only; omega, by simp only; rw [← flat_snoc hlj, List.length_append, ← hm]⟩
          · simp only; omega
          · first | exact Ent.refl _ | exact Ent.nil _ | exact Take.ent' (by repeat' constructor) | (repeat (first | exact Ent.refl _ | refine Ent.drop ?_))
        · have hje : j = row.length := by omega
          subst hje
          rw [List.take_length] at hm ⊢
          obtain ⟨rw_, hrw⟩ : ∃ q, q = row.flatMap unpackS := ⟨_, rfl⟩
          rw [← hrw] at hm ⊢
          subst hm
          have hrwl : rw_.length = W * (chK K).toNat := by rw [hrw, flat_len row (fun p hp => hul p (hrp p hp)), hrl]
          have hrwb : ∀ x ∈ rw_, 0 ≤ x ∧ x ≤ M := fun x hx => by
            rw [hrw] at hx
            obtain ⟨p, hp, hx⟩ := List.mem_flatMap.1 hx
            exact ⟨(unpackS_bd p x hx).1, (hfit p (hrp p hp)).2.2 x hx⟩
          have hrwl2 : 1 ≤ rw_.length ∧ rw_.length ≤ 12288 := by rw [hrwl]; rcases hch with e | e <;> rw [e] <;> simp <;> omega
          have hRBl : (rowB K (wideM M) rw_).length = strd K W (wideM M) := by
            by_cases h9 : K = 4
            · have e1 : (chK K).toNat = 1 := by rw [h9]; rfl
              rw [show rowB K (wideM M) rw_ = packB rw_ from if_pos h9, show strd K W (wideM M) = (W + 7) / 8 from if_pos h9, packB_len, hrwl, e1, Nat.mul_one]
            · rw [show rowB K (wideM M) rw_ = rw_.flatMap (encS (wideM M)) from if_neg h9, show strd K W (wideM M) = W * (chK K).toNat * wideM M from if_neg h9, enc_len hw, hrwl]
          have hch1 : (chK K).toNat = 1 := by rw [hK]; rfl
          rw [hch1, Nat.mul_one] at hrwl
          refine Wp.exit ?_
          refine Wp.seq ?_
          refine Wp.seq ?_
          refine Wp.region ?_
          refine s_fa (o2 := 0) rfl rfl rfl ?_
          refine s_ld rfl rfl (by rfl) ?_
          refine s_eq rfl rfl rfl ?_
          refine WpL.nil ?_
          refine Wp.condDT rfl hK ?_
          refine Wp.region ?_
          refine s_mv rfl rfl ?_
          refine s_callf rfl rfl (by repeat' constructor) (PackB_spec _ _ _ rw_ RdsL.own (fun x hx => by have := hrwb x hx; have := hb.2.2.2.2 hK; unfold bitv; omega) (by omega) (by omega)) ?_
          rintro _ _ ⟨gP, rfl, rfl⟩
          simp only [napp]
          refine s_mv rfl rfl ?_
          refine s_ext rfl rfl rfl ?_
          refine s_ext rfl rfl rfl ?_
          refine s_as rfl rfl ?_
          refine WpL.nil ?_
          refine Wp.seq ?_
          refine Wp.seq ?_
          refine Wp.region ?_
          refine s_mv rfl rfl ?_
          refine s_lenl rfl rfl ?_
          refine s_mv rfl rfl ?_
          refine WpL.nil ?_
          refine Wp.block ?_
          refine Wp.loopD (σ := Nat) (fun k => k ≤ rw_.length) [12, 17, 82, 83, 84, 85, 86, 87, 88, 89, 90, 91, 92, 93, 94, 95, 96, 97, 98, 99, 100, 101, 102, 103, 104, 105, 106, 107] (fun k => [(82, .int .i64 (k : Int)), (12, .slice (some ⟨gP, 0, none⟩) ((rw_.length + 7) / 8) ((rw_.length + 7) / 8))]) (fun k => [own 5 1 (some ⟨gP, 0, none⟩) ((rw_.length + 7) / 8) ((rw_.length + 7) / 8) (u8s (packB rw_)), own 3 1 aR cR rw_.length (ints (rw_)), own 5 1 (some ⟨gO, 0, none⟩) (st * Hn) (st * Hn) (u8s (wrRaw K W (wideM M) px y ++ zs (st * Hn - st * y))), blk g1 [.int .i64 K, .int .i64 (W : Int), .int .i64 (Hn : Int), .int .i64 M] 32, A0]) (fun k => rw_.length - k) 0 ?_ (by repeat (first | exact FrLe.nil | refine FrLe.cons rfl ?_)) ?_ ?_
          · exact Nat.zero_le _
          · first | exact Ent.refl _ | exact Ent.nil _ | exact Take.ent' (by repeat' constructor) | (repeat (first | exact Ent.refl _ | refine Ent.drop ?_))
          · rintro k hk
            refine Wp.seq ?_
            refine Wp.region ?_
            refine s_lt rfl rfl rfl ?_
            refine WpL.nil ?_
            refine Wp.seq ?_
            refine Wp.condD rfl (fun h7 => ?_) (fun h7 => ?_)
            · have hlk : k < rw_.length := by omega
              have hxb := hrwb _ (List.getElem_mem hlk)
              refine Wp.skip ?_
              refine Wp.seq ?_
              refine Wp.block ?_
              refine Wp.seq ?_
              refine Wp.region ?_
              refine s_ixa k rfl rfl rfl RdsL.own (by first | exact Take.ent' (by repeat' constructor) | (repeat (first | exact Ent.refl _ | refine Ent.drop ?_))) rfl (by omega) (by rw [ints_len]; omega) ?_
              refine s_ldx rfl rfl RdsL.own (by first | exact Take.ent' (by repeat' constructor) | (repeat (first | exact Ent.refl _ | refine Ent.drop ?_))) (ints_at rw_ hlk) ?_
              refine s_as rfl rfl ?_
              refine WpL.nil ?_
              refine Wp.block ?_
              refine Wp.seq ?_
              refine Wp.region ?_
              refine s_fa (o2 := 0) rfl rfl rfl ?_
              refine s_ld rfl rfl (by rfl) ?_
              refine s_eq rfl rfl rfl ?_
              refine s_as rfl rfl ?_
              refine WpL.nil ?_
              refine Wp.condDT rfl hK ?_
              refine Wp.skip ?_
              refine Wp.region ?_
              first | refine s_add rfl rfl rfl (w_i64 (by omega) (by omega)) ?_ | refine s_addw rfl rfl rfl ?_
              refine s_mv rfl rfl ?_
              refine WpL.nil ?_
              refine loopD.next (k + 1) ?_ ?_ (by repeat (first | exact Top.refl | refine Top.push rfl ?_ | refine Top.drop rfl ?_)) (by repeat (first | exact FrLe.nil | refine FrLe.cons rfl ?_)) ?_
              · omega
              · omega
              · first | exact Ent.refl _ | exact Ent.nil _ | exact Take.ent' (by repeat' constructor) | (repeat (first | exact Ent.refl _ | refine Ent.drop ?_))
            · have hRB : rowB K (wideM M) rw_ = packB rw_ := if_pos hK
              rw [show (rw_.length + 7) / 8 = st by rw [hrwl, hstd, hK]; exact (if_pos rfl : strd 4 W (wideM M) = _).symm, ← hRB]
              refine Wp.exit ?_
              refine Wp.region ?_
              refine s_mv rfl rfl ?_
              refine s_mv rfl rfl ?_
              refine s_lda (vs := [_, _, _, _]) rfl rfl rfl (by rfl) ?_
              refine s_callf rfl rfl (by repeat' constructor) (Stride_spec _ _ _ _ hR) ?_
              rintro _ _ ⟨rfl, rfl⟩
              simp only [napp]
              rw [← hstd]
              refine s_mul rfl rfl rfl (w_i64 (by omega) (by omega)) ?_
              rw [hyst]
              refine s_sll_l (L := st * y) rfl rfl rfl rfl (by omega) ?_
              refine s_mv rfl rfl ?_
              refine s_copyo rfl rfl rfl (by repeat' constructor) (by omega) (by omega) (by omega) (u8s_one _) ?_
              rw [row_putU (by rw [hstd]; exact wrRaw_len hw hpl hul y hy) (hRBl.trans hstd.symm) hyN, show rowB K (wideM M) rw_ = rowB K (wideM M) (((px.drop (y * W)).take W).flatMap unpackS) from by rw [hrw, hrow], ← wrRaw_succ]
              refine WpL.nil ?_
              refine Wp.region ?_
              first | refine s_add rfl rfl rfl (w_i64 (by omega) (by omega)) ?_ | refine s_addw rfl rfl rfl ?_
              refine s_mv rfl rfl ?_
              refine WpL.nil ?_
              refine loopD.next (⟨y + 1⟩ : WyX) ?_ ?_ (by repeat (first | exact Top.refl | refine Top.push rfl ?_ | refine Top.drop rfl ?_)) (by repeat (first | exact FrLe.nil | refine FrLe.cons rfl ?_)) ?_
              · simp only; omega
              · simp only; omega
              · first | exact Ent.refl _ | exact Ent.nil _ | exact Take.ent' (by repeat' constructor) | (repeat (first | exact Ent.refl _ | refine Ent.drop ?_))
    · have hye : y = Hn := by omega
      have hwl := wrRaw_len (K := K) (w := wideM M) hw hpl hul Hn (Nat.le_refl _)
      rw [← hstd] at hwl
      rw [hye, show zs (st * Hn - st * Hn) = [] from by rw [Nat.sub_self]; rfl, List.append_nil, ← hwl]
      refine Wp.exit ?_
      refine Wp.seq ?_
      refine Wp.region ?_
      refine s_mv rfl rfl ?_
      refine s_as rfl rfl ?_
      refine s_as rfl rfl ?_
      refine WpL.nil ?_
      refine Wp.ret ?_
      apply RetQ.mk
      · exact (Res.two rfl rfl rfl)
      · exact ⟨_, _, rfl, Nat.le_refl _, rfl⟩
      · first | exact Ent.refl _ | exact Ent.nil _ | exact Take.ent' (by repeat' constructor) | (repeat (first | exact Ent.refl _ | refine Ent.drop ?_))

set_option maxHeartbeats 2000000 in
theorem RawWrite_b (A0 : HP) (a0 : Option Addr) (c0 : Nat) (px : List Int) (hA : RdsL [A0] a0 (pxs px)) (hr : ∀ p ∈ px, 0 ≤ p ∧ p < 18446744073709551616) (hc : px.length ≤ c0) (K : Int) (W Hn : Nat) (M : Int) (hR : RawH K (W : Int) (Hn : Int) M) (hpl : px.length = W * Hn) (hfit : ∀ p ∈ px, FitP p (chK K) M) (hK : K ≠ 4) (hM : M ≤ 255) : Fn Try.prog 6 #[.slice a0 px.length c0, .agg #[.int .i64 K, .int .i64 (W : Int), .int .i64 (Hn : Int), .int .i64 M]] [A0] (fun v l => ∃ a c, v = .tuple #[.slice a (wrRaw K W (wideM M) px Hn).length c, .int .i64 0] ∧ (wrRaw K W (wideM M) px Hn).length ≤ c ∧ l = [own 5 1 a c (wrRaw K W (wideM M) px Hn).length (u8s (wrRaw K W (wideM M) px Hn)), A0]) := by
  have hb := hR.bd
  have hch := chK_13 K
  have hw := wideM_or M
  have hsb := strd_bd (K := K) (W := W) hw (by omega) (by omega)
  have hWH : W * Hn ≤ 4096 * 65536 := Nat.mul_le_mul (by omega) (by omega)
  have hWHi : (W : Int) * (Hn : Int) = ((W * Hn : Nat) : Int) := by push_cast; rfl
  obtain ⟨st, hstd⟩ : ∃ st, st = strd K W (wideM M) := ⟨_, rfl⟩
  rw [← hstd] at hsb
  have hN : st * Hn ≤ 24576 * 65536 := Nat.mul_le_mul (by omega) (by omega)
  have hul : ∀ p ∈ px, (unpackS p).length = (chK K).toNat := fun p hp => by have := can_fit (hfit p hp); omega
  refine Fn.intro (vs := [.slice a0 px.length c0, .agg #[.int .i64 K, .int .i64 (W : Int), .int .i64 (Hn : Int), .int .i64 M]]) Try.func6 rfl Try.ntmps6 rfl ?_
  refine Wp.seq ?_
  refine Wp.region ?_
  refine s_box rfl rfl rfl ?_
  intro g1
  refine s_as rfl rfl ?_
  refine s_as rfl rfl ?_
  refine WpL.nil ?_
  refine Wp.seq ?_
  refine Wp.region ?_
  refine s_lda (vs := [_, _, _, _]) rfl rfl rfl (by rfl) ?_
  refine s_callf rfl rfl (by repeat' constructor) (Format_spec _ _ _ _ (by omega)) ?_
  rintro _ _ ⟨rfl, rfl⟩
  simp only [napp]
  rw [show (if K % 3 = 0 then (3 : Int) else 1) = chK K from rfl]
  refine s_al rfl ?_
  intro gF
  refine s_sta rfl rfl rfl (by rfl) rfl ?_
  refine WpL.nil ?_
  refine Wp.seq ?_
  refine Wp.region ?_
  refine s_mkf rfl (fun a hh => evs_map hh _ _ rfl) ?_
  refine s_as rfl rfl ?_
  refine WpL.nil ?_
  refine Wp.seq ?_
  refine Wp.seq ?_
  refine Wp.region ?_
  refine s_lda (vs := [_, _, _, _]) rfl rfl rfl (by rfl) ?_
  refine s_callf rfl rfl (by repeat' constructor) (RawNew_spec _ _ _ _ hR) ?_
  rintro _ _ ⟨gR, gB, b0, hb0, hb0z, rfl, rfl⟩
  simp only [napp]
  refine s_mv rfl rfl ?_
  refine s_ext rfl rfl rfl ?_
  refine s_ext rfl rfl rfl ?_
  refine s_as rfl rfl ?_
  refine s_as rfl rfl ?_
  refine WpL.nil ?_
  refine Wp.seq ?_
  refine Wp.region ?_
  refine s_mv rfl rfl ?_
  refine s_ne rfl rfl rfl ?_
  refine s_mv rfl rfl ?_
  refine WpL.knowF (dj := 28) rfl (by decide) ?_
  refine WpL.gon rfl rfl ?_
  refine s_mv rfl rfl ?_
  refine WpL.gon rfl rfl ?_
  refine s_lenl rfl rfl ?_
  refine WpL.gon rfl rfl ?_
  refine s_fa (o2 := 1) rfl rfl rfl ?_
  refine WpL.gon rfl rfl ?_
  refine s_ld rfl rfl (by rfl) ?_
  refine WpL.gon rfl rfl ?_
  refine s_fa (o2 := 2) rfl rfl rfl ?_
  refine WpL.gon rfl rfl ?_
  refine s_ld rfl rfl (by rfl) ?_
  refine WpL.gon rfl rfl ?_
  refine s_mul rfl rfl rfl (w_i64 (by omega) (by omega)) ?_
  rw [hWHi]
  refine WpL.gon rfl rfl ?_
  refine s_ne rfl rfl rfl ?_
  refine s_pickF rfl rfl rfl ?_
  refine s_mv rfl rfl ?_
  refine WpL.knowF (dj := 38) rfl (decide_eq_false (fun h => h (by omega))) ?_
  refine WpL.gon rfl rfl ?_
  refine s_mv rfl rfl ?_
  refine WpL.gon rfl rfl ?_
  refine s_mv rfl rfl ?_
  refine WpL.gon rfl rfl ?_
  refine s_callf rfl rfl (by repeat' constructor) (ContainsOddR_spec A0 a0 c0 px hA hr (by omega) gF (chK K) M) ?_
  rintro _ _ ⟨rfl, rfl⟩
  simp only [napp]
  refine s_pickF rfl rfl rfl ?_
  refine WpL.nil ?_
  refine Wp.condDF rfl (fun h => h hfit) ?_
  refine Wp.skip ?_
  refine Wp.seq ?_
  refine Wp.region ?_
  refine s_lda (vs := [_, _, _, _]) rfl rfl rfl (by rfl) ?_
  refine s_callf rfl rfl (by repeat' constructor) (Size_spec _ _ _ _ hR) ?_
  rintro _ _ ⟨rfl, rfl⟩
  simp only [napp]
  rw [← hstd]
  refine s_mko (st * Hn) rfl rfl rfl (by omega) (by omega) rfl ?_
  intro gO
  rw [u8s_zero, show List.replicate (st * Hn) (0 : Int) = wrRaw K W (wideM M) px 0 ++ zs (st * Hn - st * 0) from rfl]
  refine s_as rfl rfl ?_
  refine WpL.nil ?_
  refine Wp.seq ?_
  refine Wp.seq ?_
  refine Wp.region ?_
  refine s_fa (o2 := 2) rfl rfl rfl ?_
  refine s_ld rfl rfl (by rfl) ?_
  refine s_mv rfl rfl ?_
  refine WpL.nil ?_
  refine Wp.block ?_
  refine Wp.loopD (σ := WyX) (fun x => x.y ≤ Hn) [11, 12, 13, 15, 17, 48, 49, 50, 51, 52, 53, 54, 55, 56, 57, 58, 59, 60, 61, 62, 63, 64, 65, 66, 67, 68, 69, 70, 71, 72, 73, 74, 75, 76, 77, 78, 79, 80, 81, 82, 83, 84, 85, 86, 87, 88, 89, 90, 91, 92, 93, 94, 95, 96, 97, 98, 99, 100, 101, 102, 103, 104, 105, 106, 107, 108, 109, 110, 111, 112, 113, 114, 115, 116] (fun x => [(48, .int .i64 (x.y : Int))]) (fun x => [own 5 1 (some ⟨gO, 0, none⟩) (st * Hn) (st * Hn) (u8s (wrRaw K W (wideM M) px x.y ++ zs (st * Hn - st * x.y))), blk g1 [.int .i64 K, .int .i64 (W : Int), .int .i64 (Hn : Int), .int .i64 M] 32, A0]) (fun x => Hn - x.y) ⟨0⟩ ?_ (by repeat (first | exact FrLe.nil | refine FrLe.cons rfl ?_)) ?_ ?_
  · exact Nat.zero_le _
  · first | exact Ent.refl _ | exact Ent.nil _ | exact Take.ent' (by repeat' constructor) | (repeat (first | exact Ent.refl _ | refine Ent.drop ?_))
  · rintro ⟨y⟩ hy
    dsimp only at hy ⊢
    refine Wp.seq ?_
    refine Wp.region ?_
    refine s_lt rfl rfl rfl ?_
    refine WpL.nil ?_
    refine Wp.seq ?_
    refine Wp.condD rfl (fun h2 => ?_) (fun h2 => ?_)
    · have hlt : y < Hn := by omega
      have hkW : (y + 1) * W = y * W + W := by rw [Nat.add_mul, Nat.one_mul]
      have hkW2 : (y + 1) * W ≤ Hn * W := Nat.mul_le_mul_right _ hlt
      rw [Nat.mul_comm Hn W] at hkW2
      have ei1 : (y : Int) * (W : Int) = ((y * W : Nat) : Int) := by push_cast; rfl
      have ei2 : ((y : Int) + 1) * (W : Int) = (((y + 1) * W : Nat) : Int) := by push_cast; rfl
      have hyN : st * (y + 1) ≤ st * Hn := Nat.mul_le_mul_left _ hlt
      have hyS : st * (y + 1) = st * y + st := by rw [Nat.mul_add, Nat.mul_one]
      have hyst : (y : Int) * (st : Int) = ((st * y : Nat) : Int) := by push_cast; rw [Int.mul_comm]
      refine Wp.skip ?_
      refine Wp.seq ?_
      refine Wp.block ?_
      refine Wp.seq ?_
      refine Wp.region ?_
      refine s_mv rfl rfl ?_
      refine s_as rfl rfl ?_
      refine WpL.nil ?_
      refine Wp.seq ?_
      refine Wp.region ?_
      refine s_as rfl rfl ?_
      refine WpL.nil ?_
      refine Wp.seq ?_
      refine Wp.region ?_
      refine s_as rfl rfl ?_
      refine WpL.nil ?_
      refine Wp.seq ?_
      refine Wp.seq ?_
      refine Wp.region ?_
      refine s_mv rfl rfl ?_
      refine s_mv rfl rfl ?_
      refine s_fa (o2 := 1) rfl rfl rfl ?_
      refine s_ld rfl rfl (by rfl) ?_
      refine s_mul rfl rfl rfl (w_i64 (by omega) (by omega)) ?_
      rw [ei1]
      refine s_mv rfl rfl ?_
      first | refine s_add rfl rfl rfl (w_i64 (by omega) (by omega)) ?_ | refine s_addw rfl rfl rfl ?_
      refine s_fa (o2 := 1) rfl rfl rfl ?_
      refine s_ld rfl rfl (by rfl) ?_
      refine s_mul rfl rfl rfl (w_i64 (by omega) (by omega)) ?_
      rw [ei2]
      refine s_sll_lh (L := y * W) (H := (y + 1) * W) rfl rfl rfl rfl rfl rfl (by omega) (by omega) ?_
      refine s_lenl rfl rfl ?_
      refine s_mv rfl rfl ?_
      refine WpL.nil ?_
      refine Wp.block ?_
      have hRw := hA.sla (y * W) ((y + 1) * W) c0 1 (by omega)
      rw [pxs_sub] at hRw
      rw [show (y + 1) * W - y * W = W by omega] at hRw ⊢
      obtain ⟨row, hrow⟩ : ∃ row, row = (px.drop (y * W)).take W := ⟨_, rfl⟩
      have hrl : row.length = W := by rw [hrow, List.length_take, List.length_drop]; omega
      have hrp : ∀ p ∈ row, p ∈ px := fun p hp => by rw [hrow] at hp; exact List.mem_of_mem_drop (List.mem_of_mem_take hp)
      rw [← hrow] at hRw
      refine Wp.loopD (σ := WjX) (fun z => z.j ≤ W ∧ z.m = ((row.take z.j).flatMap unpackS).length) [13, 15, 63, 64, 65, 66, 67, 68, 69, 70, 71] (fun z => [(63, .int .i64 (z.j : Int)), (13, .slice z.a z.m z.c)]) (fun z => [own 3 1 z.a z.c z.m (ints ((row.take z.j).flatMap unpackS)), own 5 1 (some ⟨gO, 0, none⟩) (st * Hn) (st * Hn) (u8s (wrRaw K W (wideM M) px y ++ zs (st * Hn - st * y))), blk g1 [.int .i64 K, .int .i64 (W : Int), .int .i64 (Hn : Int), .int .i64 M] 32, A0]) (fun z => W - z.j) ⟨0, none, 0, 0⟩ ?_ (by repeat (first | exact FrLe.nil | refine FrLe.cons rfl ?_)) ?_ ?_
      · exact ⟨Nat.zero_le _, rfl⟩
      · exact Ent.own_nil (T := 3) (s := 1) (Ent.refl _)
      · rintro ⟨j, aR, cR, m⟩ ⟨hj, hm⟩
        dsimp only at hj hm ⊢
        have hml := flat_le (row.take j)
        rw [← hm, List.length_take] at hml
        refine Wp.seq ?_
        refine Wp.region ?_
        refine s_lt rfl rfl rfl ?_
        refine WpL.nil ?_
        refine Wp.seq ?_
        refine Wp.condD rfl (fun h4 => ?_) (fun h4 => ?_)
        · have hlj : j < row.length := by omega
          have hpp := hrp _ (List.getElem_mem hlj)
          have hpb := hr _ hpp
          have hun := hul _ hpp
          have hul3 := unpackS_len (row[j]'hlj)
          refine Wp.skip ?_
          refine Wp.seq ?_
          refine Wp.block ?_
          refine Wp.seq ?_
          refine Wp.region ?_
          refine s_ixa j rfl rfl rfl hRw (by first | exact Take.ent' (by repeat' constructor) | (repeat (first | exact Ent.refl _ | refine Ent.drop ?_))) rfl (by omega) (by rw [pxs_len]; omega) ?_
          refine s_ldx rfl rfl hRw (by first | exact Take.ent' (by repeat' constructor) | (repeat (first | exact Ent.refl _ | refine Ent.drop ?_))) (pxs_at row hlj) ?_
          refine s_as rfl rfl ?_
          refine WpL.nil ?_
          refine Wp.region ?_
          refine s_mv rfl rfl ?_
          refine s_mv rfl rfl ?_
          refine s_callf rfl rfl (by repeat' constructor) (Unpack_spec _ hpb.1 hpb.2) ?_
          rintro _ _ ⟨A1, a1, c1, rfl, rfl, hA1, hn1⟩
          simp only [napp]
          refine s_appr rfl rfl rfl (by repeat' constructor) hA1 (by first | exact Take.ent' (by repeat' constructor) | (repeat (first | exact Ent.refl _ | refine Ent.drop ?_))) (ints_ne (fun e => by rw [e] at hun; simp at hun; omega)) (by rw [ints_len, Nat.mul_one]) (by rfl) (by rfl) (ints_one _) (by omega) (by omega) ?_
          intro a70 c70
          rw [ints_app, flat_snoc hlj]
          refine s_as rfl rfl ?_
          refine WpL.nil ?_
          refine Wp.region ?_
          first | refine s_add rfl rfl rfl (w_i64 (by omega) (by omega)) ?_ | refine s_addw rfl rfl rfl ?_
          refine s_mv rfl rfl ?_
          refine WpL.nil ?_
          refine loopD.next (⟨j + 1, a70, c70, m + (unpackS (row[j]'hlj)).length⟩ : WjX) ?_ ?_ (by repeat (first | exact Top.refl | refine Top.push rfl ?_ | refine Top.drop rfl ?_)) (by repeat (first | exact FrLe.nil | refine FrLe.cons rfl ?_)) ?_
          · exact ⟨by simp only; omega, by simp only; rw [← flat_snoc hlj, List.length_append, ← hm]⟩
          · simp only; omega
          · first | exact Ent.refl _ | exact Ent.nil _ | exact Take.ent' (by repeat' constructor) | (repeat (first | exact Ent.refl _ | refine Ent.drop ?_))
        · have hje : j = row.length := by omega
          subst hje
          rw [List.take_length] at hm ⊢
          obtain ⟨rw_, hrw⟩ : ∃ q, q = row.flatMap unpackS := ⟨_, rfl⟩
          rw [← hrw] at hm ⊢
          subst hm
          have hrwl : rw_.length = W * (chK K).toNat := by rw [hrw, flat_len row (fun p hp => hul p (hrp p hp)), hrl]
          have hrwb : ∀ x ∈ rw_, 0 ≤ x ∧ x ≤ M := fun x hx => by
            rw [hrw] at hx
            obtain ⟨p, hp, hx⟩ := List.mem_flatMap.1 hx
            exact ⟨(unpackS_bd p x hx).1, (hfit p (hrp p hp)).2.2 x hx⟩
          have hrwl2 : 1 ≤ rw_.length ∧ rw_.length ≤ 12288 := by rw [hrwl]; rcases hch with e | e <;> rw [e] <;> simp <;> omega
          have hRBl : (rowB K (wideM M) rw_).length = strd K W (wideM M) := by
            by_cases h9 : K = 4
            · have e1 : (chK K).toNat = 1 := by rw [h9]; rfl
              rw [show rowB K (wideM M) rw_ = packB rw_ from if_pos h9, show strd K W (wideM M) = (W + 7) / 8 from if_pos h9, packB_len, hrwl, e1, Nat.mul_one]
            · rw [show rowB K (wideM M) rw_ = rw_.flatMap (encS (wideM M)) from if_neg h9, show strd K W (wideM M) = W * (chK K).toNat * wideM M from if_neg h9, enc_len hw, hrwl]
          have hw1 : wideM M = 1 := if_neg (by omega)
          refine Wp.exit ?_
          refine Wp.seq ?_
          refine Wp.seq ?_
          refine Wp.region ?_
          refine s_fa (o2 := 0) rfl rfl rfl ?_
          refine s_ld rfl rfl (by rfl) ?_
          refine s_eq rfl rfl rfl ?_
          refine WpL.nil ?_
          refine Wp.condDF rfl hK ?_
          refine Wp.skip ?_
          refine Wp.seq ?_
          refine Wp.seq ?_
          refine Wp.region ?_
          refine s_mv rfl rfl ?_
          refine s_lenl rfl rfl ?_
          refine s_mv rfl rfl ?_
          refine WpL.nil ?_
          refine Wp.block ?_
          refine Wp.loopD (σ := WjX) (fun z => z.j ≤ rw_.length ∧ z.m = ((rw_.take z.j).flatMap (encS (wideM M))).length) [12, 17, 82, 83, 84, 85, 86, 87, 88, 89, 90, 91, 92, 93, 94, 95, 96, 97, 98, 99, 100, 101, 102, 103, 104, 105, 106, 107] (fun z => [(82, .int .i64 (z.j : Int)), (12, .slice z.a z.m z.c)]) (fun z => [own 5 1 z.a z.c z.m (u8s ((rw_.take z.j).flatMap (encS (wideM M)))), own 3 1 aR cR rw_.length (ints (rw_)), own 5 1 (some ⟨gO, 0, none⟩) (st * Hn) (st * Hn) (u8s (wrRaw K W (wideM M) px y ++ zs (st * Hn - st * y))), blk g1 [.int .i64 K, .int .i64 (W : Int), .int .i64 (Hn : Int), .int .i64 M] 32, A0]) (fun z => rw_.length - z.j) ⟨0, none, 0, 0⟩ ?_ (by repeat (first | exact FrLe.nil | refine FrLe.cons rfl ?_)) ?_ ?_
          · exact ⟨Nat.zero_le _, rfl⟩
          · exact Ent.own_nil (T := 5) (s := 1) (Ent.refl _)
          · rintro ⟨k, aB, cB, mB⟩ ⟨hk, hmB⟩
            dsimp only at hk hmB ⊢
            have hmBl := enc_le (wideM M) (rw_.take k)
            rw [← hmB, List.length_take] at hmBl
            refine Wp.seq ?_
            refine Wp.region ?_
            refine s_lt rfl rfl rfl ?_
            refine WpL.nil ?_
            refine Wp.seq ?_
            refine Wp.condD rfl (fun h7 => ?_) (fun h7 => ?_)
            · have hlk : k < rw_.length := by omega
              have hxb := hrwb _ (List.getElem_mem hlk)
              refine Wp.skip ?_
              refine Wp.seq ?_
              refine Wp.block ?_
              refine Wp.seq ?_
              refine Wp.region ?_
              refine s_ixa k rfl rfl rfl RdsL.own (by first | exact Take.ent' (by repeat' constructor) | (repeat (first | exact Ent.refl _ | refine Ent.drop ?_))) rfl (by omega) (by rw [ints_len]; omega) ?_
              refine s_ldx rfl rfl RdsL.own (by first | exact Take.ent' (by repeat' constructor) | (repeat (first | exact Ent.refl _ | refine Ent.drop ?_))) (ints_at rw_ hlk) ?_
              refine s_as rfl rfl ?_
              refine WpL.nil ?_
              refine Wp.block ?_
              refine Wp.seq ?_
              refine Wp.region ?_
              refine s_fa (o2 := 0) rfl rfl rfl ?_
              refine s_ld rfl rfl (by rfl) ?_
              refine s_eq rfl rfl rfl ?_
              refine s_as rfl rfl ?_
              refine WpL.nil ?_
              refine Wp.condDF rfl hK ?_
              refine Wp.seq ?_
              refine Wp.region ?_
              refine s_lda (vs := [_, _, _, _]) rfl rfl rfl (by rfl) ?_
              refine s_callf rfl rfl (by repeat' constructor) (wide_spec _ _ _ _) ?_
              rintro _ _ ⟨rfl, rfl⟩
              simp only [napp]
              refine s_eq rfl rfl rfl ?_
              refine s_as rfl rfl ?_
              refine WpL.nil ?_
              refine Wp.condDT rfl (by omega) ?_
              refine Wp.region ?_
              refine s_mv rfl rfl ?_
              refine s_mv rfl rfl ?_
              refine s_cvi rfl Try.underlying3 rfl (w_u8 (by omega) (by omega)) ?_
              refine s_bs1 rfl rfl rfl rfl ?_
              intro g3
              refine s_app1 rfl rfl rfl (by repeat' constructor) (by rfl) (by rfl) (by rfl) (by rfl) (by omega) (by omega) ?_
              intro aN cN
              rw [u8s_snoc, show [rw_[k]'hlk] = encS (wideM M) (rw_[k]'hlk) from by rw [hw1, encS1], enc_snoc hlk]
              refine s_as rfl rfl ?_
              refine WpL.nil ?_
              refine Wp.region ?_
              first | refine s_add rfl rfl rfl (w_i64 (by omega) (by omega)) ?_ | refine s_addw rfl rfl rfl ?_
              refine s_mv rfl rfl ?_
              refine WpL.nil ?_
              refine loopD.next (⟨k + 1, aN, cN, mB + 1⟩ : WjX) ?_ ?_ (by repeat (first | exact Top.refl | refine Top.push rfl ?_ | refine Top.drop rfl ?_)) (by repeat (first | exact FrLe.nil | refine FrLe.cons rfl ?_)) ?_
              · exact ⟨by simp only; omega, by simp only; rw [← enc_snoc hlk, List.length_append, ← hmB, hw1, encS1]; rfl⟩
              · simp only; omega
              · first | exact Ent.refl _ | exact Ent.nil _ | exact Take.ent' (by repeat' constructor) | (repeat (first | exact Ent.refl _ | refine Ent.drop ?_))
            · have hke : k = rw_.length := by omega
              subst hke
              rw [List.take_length] at hmB ⊢
              have hRB : rowB K (wideM M) rw_ = rw_.flatMap (encS (wideM M)) := if_neg hK
              rw [← hRB] at hmB ⊢
              have hmst : mB = st := hmB.trans (hRBl.trans hstd.symm)
              rw [hmst]
              refine Wp.exit ?_
              refine Wp.region ?_
              refine s_mv rfl rfl ?_
              refine s_mv rfl rfl ?_
              refine s_lda (vs := [_, _, _, _]) rfl rfl rfl (by rfl) ?_
              refine s_callf rfl rfl (by repeat' constructor) (Stride_spec _ _ _ _ hR) ?_
              rintro _ _ ⟨rfl, rfl⟩
              simp only [napp]
              rw [← hstd]
              refine s_mul rfl rfl rfl (w_i64 (by omega) (by omega)) ?_
              rw [hyst]
              refine s_sll_l (L := st * y) rfl rfl rfl rfl (by omega) ?_
              refine s_mv rfl rfl ?_
              refine s_copyo rfl rfl rfl (by repeat' constructor) (by omega) (by omega) (by omega) (u8s_one _) ?_
              rw [row_putU (by rw [hstd]; exact wrRaw_len hw hpl hul y hy) (hRBl.trans hstd.symm) hyN, show rowB K (wideM M) rw_ = rowB K (wideM M) (((px.drop (y * W)).take W).flatMap unpackS) from by rw [hrw, hrow], ← wrRaw_succ]
              refine WpL.nil ?_
              refine Wp.region ?_
              first | refine s_add rfl rfl rfl (w_i64 (by omega) (by omega)) ?_ | refine s_addw rfl rfl rfl ?_
              refine s_mv rfl rfl ?_
              refine WpL.nil ?_
              refine loopD.next (⟨y + 1⟩ : WyX) ?_ ?_ (by repeat (first | exact Top.refl | refine Top.push rfl ?_ | refine Top.drop rfl ?_)) (by repeat (first | exact FrLe.nil | refine FrLe.cons rfl ?_)) ?_
              · simp only; omega
              · simp only; omega
              · first | exact Ent.refl _ | exact Ent.nil _ | exact Take.ent' (by repeat' constructor) | (repeat (first | exact Ent.refl _ | refine Ent.drop ?_))
    · have hye : y = Hn := by omega
      have hwl := wrRaw_len (K := K) (w := wideM M) hw hpl hul Hn (Nat.le_refl _)
      rw [← hstd] at hwl
      rw [hye, show zs (st * Hn - st * Hn) = [] from by rw [Nat.sub_self]; rfl, List.append_nil, ← hwl]
      refine Wp.exit ?_
      refine Wp.seq ?_
      refine Wp.region ?_
      refine s_mv rfl rfl ?_
      refine s_as rfl rfl ?_
      refine s_as rfl rfl ?_
      refine WpL.nil ?_
      refine Wp.ret ?_
      apply RetQ.mk
      · exact (Res.two rfl rfl rfl)
      · exact ⟨_, _, rfl, Nat.le_refl _, rfl⟩
      · first | exact Ent.refl _ | exact Ent.nil _ | exact Take.ent' (by repeat' constructor) | (repeat (first | exact Ent.refl _ | refine Ent.drop ?_))

set_option maxHeartbeats 2000000 in
theorem RawWrite_c (A0 : HP) (a0 : Option Addr) (c0 : Nat) (px : List Int) (hA : RdsL [A0] a0 (pxs px)) (hr : ∀ p ∈ px, 0 ≤ p ∧ p < 18446744073709551616) (hc : px.length ≤ c0) (K : Int) (W Hn : Nat) (M : Int) (hR : RawH K (W : Int) (Hn : Int) M) (hpl : px.length = W * Hn) (hfit : ∀ p ∈ px, FitP p (chK K) M) (hK : K ≠ 4) (hM : ¬ M ≤ 255) : Fn Try.prog 6 #[.slice a0 px.length c0, .agg #[.int .i64 K, .int .i64 (W : Int), .int .i64 (Hn : Int), .int .i64 M]] [A0] (fun v l => ∃ a c, v = .tuple #[.slice a (wrRaw K W (wideM M) px Hn).length c, .int .i64 0] ∧ (wrRaw K W (wideM M) px Hn).length ≤ c ∧ l = [own 5 1 a c (wrRaw K W (wideM M) px Hn).length (u8s (wrRaw K W (wideM M) px Hn)), A0]) := by
  have hb := hR.bd
  have hch := chK_13 K
  have hw := wideM_or M
  have hsb := strd_bd (K := K) (W := W) hw (by omega) (by omega)
  have hWH : W * Hn ≤ 4096 * 65536 := Nat.mul_le_mul (by omega) (by omega)
  have hWHi : (W : Int) * (Hn : Int) = ((W * Hn : Nat) : Int) := by push_cast; rfl
  obtain ⟨st, hstd⟩ : ∃ st, st = strd K W (wideM M) := ⟨_, rfl⟩
  rw [← hstd] at hsb
  have hN : st * Hn ≤ 24576 * 65536 := Nat.mul_le_mul (by omega) (by omega)
  have hul : ∀ p ∈ px, (unpackS p).length = (chK K).toNat := fun p hp => by have := can_fit (hfit p hp); omega
  refine Fn.intro (vs := [.slice a0 px.length c0, .agg #[.int .i64 K, .int .i64 (W : Int), .int .i64 (Hn : Int), .int .i64 M]]) Try.func6 rfl Try.ntmps6 rfl ?_
  refine Wp.seq ?_
  refine Wp.region ?_
  refine s_box rfl rfl rfl ?_
  intro g1
  refine s_as rfl rfl ?_
  refine s_as rfl rfl ?_
  refine WpL.nil ?_
  refine Wp.seq ?_
  refine Wp.region ?_
  refine s_lda (vs := [_, _, _, _]) rfl rfl rfl (by rfl) ?_
  refine s_callf rfl rfl (by repeat' constructor) (Format_spec _ _ _ _ (by omega)) ?_
  rintro _ _ ⟨rfl, rfl⟩
  simp only [napp]
  rw [show (if K % 3 = 0 then (3 : Int) else 1) = chK K from rfl]
  refine s_al rfl ?_
  intro gF
  refine s_sta rfl rfl rfl (by rfl) rfl ?_
  refine WpL.nil ?_
  refine Wp.seq ?_
  refine Wp.region ?_
  refine s_mkf rfl (fun a hh => evs_map hh _ _ rfl) ?_
  refine s_as rfl rfl ?_
  refine WpL.nil ?_
  refine Wp.seq ?_
  refine Wp.seq ?_
  refine Wp.region ?_
  refine s_lda (vs := [_, _, _, _]) rfl rfl rfl (by rfl) ?_
  refine s_callf rfl rfl (by repeat' constructor) (RawNew_spec _ _ _ _ hR) ?_
  rintro _ _ ⟨gR, gB, b0, hb0, hb0z, rfl, rfl⟩
  simp only [napp]
  refine s_mv rfl rfl ?_
  refine s_ext rfl rfl rfl ?_
  refine s_ext rfl rfl rfl ?_
  refine s_as rfl rfl ?_
  refine s_as rfl rfl ?_
  refine WpL.nil ?_
  refine Wp.seq ?_
  refine Wp.region ?_
  refine s_mv rfl rfl ?_
  refine s_ne rfl rfl rfl ?_
  refine s_mv rfl rfl ?_
  refine WpL.knowF (dj := 28) rfl (by decide) ?_
  refine WpL.gon rfl rfl ?_
  refine s_mv rfl rfl ?_
  refine WpL.gon rfl rfl ?_
  refine s_lenl rfl rfl ?_
  refine WpL.gon rfl rfl ?_
  refine s_fa (o2 := 1) rfl rfl rfl ?_
  refine WpL.gon rfl rfl ?_
  refine s_ld rfl rfl (by rfl) ?_
  refine WpL.gon rfl rfl ?_
  refine s_fa (o2 := 2) rfl rfl rfl ?_
  refine WpL.gon rfl rfl ?_
  refine s_ld rfl rfl (by rfl) ?_
  refine WpL.gon rfl rfl ?_
  refine s_mul rfl rfl rfl (w_i64 (by omega) (by omega)) ?_
  rw [hWHi]
  refine WpL.gon rfl rfl ?_
  refine s_ne rfl rfl rfl ?_
  refine s_pickF rfl rfl rfl ?_
  refine s_mv rfl rfl ?_
  refine WpL.knowF (dj := 38) rfl (decide_eq_false (fun h => h (by omega))) ?_
  refine WpL.gon rfl rfl ?_
  refine s_mv rfl rfl ?_
  refine WpL.gon rfl rfl ?_
  refine s_mv rfl rfl ?_
  refine WpL.gon rfl rfl ?_
  refine s_callf rfl rfl (by repeat' constructor) (ContainsOddR_spec A0 a0 c0 px hA hr (by omega) gF (chK K) M) ?_
  rintro _ _ ⟨rfl, rfl⟩
  simp only [napp]
  refine s_pickF rfl rfl rfl ?_
  refine WpL.nil ?_
  refine Wp.condDF rfl (fun h => h hfit) ?_
  refine Wp.skip ?_
  refine Wp.seq ?_
  refine Wp.region ?_
  refine s_lda (vs := [_, _, _, _]) rfl rfl rfl (by rfl) ?_
  refine s_callf rfl rfl (by repeat' constructor) (Size_spec _ _ _ _ hR) ?_
  rintro _ _ ⟨rfl, rfl⟩
  simp only [napp]
  rw [← hstd]
  refine s_mko (st * Hn) rfl rfl rfl (by omega) (by omega) rfl ?_
  intro gO
  rw [u8s_zero, show List.replicate (st * Hn) (0 : Int) = wrRaw K W (wideM M) px 0 ++ zs (st * Hn - st * 0) from rfl]
  refine s_as rfl rfl ?_
  refine WpL.nil ?_
  refine Wp.seq ?_
  refine Wp.seq ?_
  refine Wp.region ?_
  refine s_fa (o2 := 2) rfl rfl rfl ?_
  refine s_ld rfl rfl (by rfl) ?_
  refine s_mv rfl rfl ?_
  refine WpL.nil ?_
  refine Wp.block ?_
  refine Wp.loopD (σ := WyX) (fun x => x.y ≤ Hn) [11, 12, 13, 15, 17, 48, 49, 50, 51, 52, 53, 54, 55, 56, 57, 58, 59, 60, 61, 62, 63, 64, 65, 66, 67, 68, 69, 70, 71, 72, 73, 74, 75, 76, 77, 78, 79, 80, 81, 82, 83, 84, 85, 86, 87, 88, 89, 90, 91, 92, 93, 94, 95, 96, 97, 98, 99, 100, 101, 102, 103, 104, 105, 106, 107, 108, 109, 110, 111, 112, 113, 114, 115, 116] (fun x => [(48, .int .i64 (x.y : Int))]) (fun x => [own 5 1 (some ⟨gO, 0, none⟩) (st * Hn) (st * Hn) (u8s (wrRaw K W (wideM M) px x.y ++ zs (st * Hn - st * x.y))), blk g1 [.int .i64 K, .int .i64 (W : Int), .int .i64 (Hn : Int), .int .i64 M] 32, A0]) (fun x => Hn - x.y) ⟨0⟩ ?_ (by repeat (first | exact FrLe.nil | refine FrLe.cons rfl ?_)) ?_ ?_
  · exact Nat.zero_le _
  · first | exact Ent.refl _ | exact Ent.nil _ | exact Take.ent' (by repeat' constructor) | (repeat (first | exact Ent.refl _ | refine Ent.drop ?_))
  · rintro ⟨y⟩ hy
    dsimp only at hy ⊢
    refine Wp.seq ?_
    refine Wp.region ?_
    refine s_lt rfl rfl rfl ?_
    refine WpL.nil ?_
    refine Wp.seq ?_
    refine Wp.condD rfl (fun h2 => ?_) (fun h2 => ?_)
    · have hlt : y < Hn := by omega
      have hkW : (y + 1) * W = y * W + W := by rw [Nat.add_mul, Nat.one_mul]
      have hkW2 : (y + 1) * W ≤ Hn * W := Nat.mul_le_mul_right _ hlt
      rw [Nat.mul_comm Hn W] at hkW2
      have ei1 : (y : Int) * (W : Int) = ((y * W : Nat) : Int) := by push_cast; rfl
      have ei2 : ((y : Int) + 1) * (W : Int) = (((y + 1) * W : Nat) : Int) := by push_cast; rfl
      have hyN : st * (y + 1) ≤ st * Hn := Nat.mul_le_mul_left _ hlt
      have hyS : st * (y + 1) = st * y + st := by rw [Nat.mul_add, Nat.mul_one]
      have hyst : (y : Int) * (st : Int) = ((st * y : Nat) : Int) := by push_cast; rw [Int.mul_comm]
      refine Wp.skip ?_
      refine Wp.seq ?_
      refine Wp.block ?_
      refine Wp.seq ?_
      refine Wp.region ?_
      refine s_mv rfl rfl ?_
      refine s_as rfl rfl ?_
      refine WpL.nil ?_
      refine Wp.seq ?_
      refine Wp.region ?_
      refine s_as rfl rfl ?_
      refine WpL.nil ?_
      refine Wp.seq ?_
      refine Wp.region ?_
      refine s_as rfl rfl ?_
      refine WpL.nil ?_
      refine Wp.seq ?_
      refine Wp.seq ?_
      refine Wp.region ?_
      refine s_mv rfl rfl ?_
      refine s_mv rfl rfl ?_
      refine s_fa (o2 := 1) rfl rfl rfl ?_
      refine s_ld rfl rfl (by rfl) ?_
      refine s_mul rfl rfl rfl (w_i64 (by omega) (by omega)) ?_
      rw [ei1]
      refine s_mv rfl rfl ?_
      first | refine s_add rfl rfl rfl (w_i64 (by omega) (by omega)) ?_ | refine s_addw rfl rfl rfl ?_
      refine s_fa (o2 := 1) rfl rfl rfl ?_
      refine s_ld rfl rfl (by rfl) ?_
      refine s_mul rfl rfl rfl (w_i64 (by omega) (by omega)) ?_
      rw [ei2]
      refine s_sll_lh (L := y * W) (H := (y + 1) * W) rfl rfl rfl rfl rfl rfl (by omega) (by omega) ?_
      refine s_lenl rfl rfl ?_
      refine s_mv rfl rfl ?_
      refine WpL.nil ?_
      refine Wp.block ?_
      have hRw := hA.sla (y * W) ((y + 1) * W) c0 1 (by omega)
      rw [pxs_sub] at hRw
      rw [show (y + 1) * W - y * W = W by omega] at hRw ⊢
      obtain ⟨row, hrow⟩ : ∃ row, row = (px.drop (y * W)).take W := ⟨_, rfl⟩
      have hrl : row.length = W := by rw [hrow, List.length_take, List.length_drop]; omega
      have hrp : ∀ p ∈ row, p ∈ px := fun p hp => by rw [hrow] at hp; exact List.mem_of_mem_drop (List.mem_of_mem_take hp)
      rw [← hrow] at hRw
      refine Wp.loopD (σ := WjX) (fun z => z.j ≤ W ∧ z.m = ((row.take z.j).flatMap unpackS).length) [13, 15, 63, 64, 65, 66, 67, 68, 69, 70, 71] (fun z => [(63, .int .i64 (z.j : Int)), (13, .slice z.a z.m z.c)]) (fun z => [own 3 1 z.a z.c z.m (ints ((row.take z.j).flatMap unpackS)), own 5 1 (some ⟨gO, 0, none⟩) (st * Hn) (st * Hn) (u8s (wrRaw K W (wideM M) px y ++ zs (st * Hn - st * y))), blk g1 [.int .i64 K, .int .i64 (W : Int), .int .i64 (Hn : Int), .int .i64 M] 32, A0]) (fun z => W - z.j) ⟨0, none, 0, 0⟩ ?_ (by repeat (first | exact FrLe.nil | refine FrLe.cons rfl ?_)) ?_ ?_
      · exact ⟨Nat.zero_le _, rfl⟩
      · exact Ent.own_nil (T := 3) (s := 1) (Ent.refl _)
      · rintro ⟨j, aR, cR, m⟩ ⟨hj, hm⟩
        dsimp only at hj hm ⊢
        have hml := flat_le (row.take j)
        rw [← hm, List.length_take] at hml
        refine Wp.seq ?_
        refine Wp.region ?_
        refine s_lt rfl rfl rfl ?_
        refine WpL.nil ?_
        refine Wp.seq ?_
        refine Wp.condD rfl (fun h4 => ?_) (fun h4 => ?_)
        · have hlj : j < row.length := by omega
          have hpp := hrp _ (List.getElem_mem hlj)
          have hpb := hr _ hpp
          have hun := hul _ hpp
          have hul3 := unpackS_len (row[j]'hlj)
          refine Wp.skip ?_
          refine Wp.seq ?_
          refine Wp.block ?_
          refine Wp.seq ?_
          refine Wp.region ?_
          refine s_ixa j rfl rfl rfl hRw (by first | exact Take.ent' (by repeat' constructor) | (repeat (first | exact Ent.refl _ | refine Ent.drop ?_))) rfl (by omega) (by rw [pxs_len]; omega) ?_
          refine s_ldx rfl rfl hRw (by first | exact Take.ent' (by repeat' constructor) | (repeat (first | exact Ent.refl _ | refine Ent.drop ?_))) (pxs_at row hlj) ?_
          refine s_as rfl rfl ?_
          refine WpL.nil ?_
          refine Wp.region ?_
          refine s_mv rfl rfl ?_
          refine s_mv rfl rfl ?_
          refine s_callf rfl rfl (by repeat' constructor) (Unpack_spec _ hpb.1 hpb.2) ?_
          rintro _ _ ⟨A1, a1, c1, rfl, rfl, hA1, hn1⟩
          simp only [napp]
          refine s_appr rfl rfl rfl (by repeat' constructor) hA1 (by first | exact Take.ent' (by repeat' constructor) | (repeat (first | exact Ent.refl _ | refine Ent.drop ?_))) (ints_ne (fun e => by rw [e] at hun; simp at hun; omega)) (by rw [ints_len, Nat.mul_one]) (by rfl) (by rfl) (ints_one _) (by omega) (by omega) ?_
          intro a70 c70
          rw [ints_app, flat_snoc hlj]
          refine s_as rfl rfl ?_
          refine WpL.nil ?_
          refine Wp.region ?_
          first | refine s_add rfl rfl rfl (w_i64 (by omega) (by omega)) ?_ | refine s_addw rfl rfl rfl ?_
          refine s_mv rfl rfl ?_
          refine WpL.nil ?_
          refine loopD.next (⟨j + 1, a70, c70, m + (unpackS (row[j]'hlj)).length⟩ : WjX) ?_ ?_ (by repeat (first | exact Top.refl | refine Top.push rfl ?_ | refine Top.drop rfl ?_)) (by repeat (first | exact FrLe.nil | refine FrLe.cons rfl ?_)) ?_
          · exact ⟨by simp only; omega, by simp only; rw [← flat_snoc hlj, List.length_append, ← hm]⟩
          · simp only; omega
          · first | exact Ent.refl _ | exact Ent.nil _ | exact Take.ent' (by repeat' constructor) | (repeat (first | exact Ent.refl _ | refine Ent.drop ?_))
        · have hje : j = row.length := by omega
          subst hje
          rw [List.take_length] at hm ⊢
          obtain ⟨rw_, hrw⟩ : ∃ q, q = row.flatMap unpackS := ⟨_, rfl⟩
          rw [← hrw] at hm ⊢
          subst hm
          have hrwl : rw_.length = W * (chK K).toNat := by rw [hrw, flat_len row (fun p hp => hul p (hrp p hp)), hrl]
          have hrwb : ∀ x ∈ rw_, 0 ≤ x ∧ x ≤ M := fun x hx => by
            rw [hrw] at hx
            obtain ⟨p, hp, hx⟩ := List.mem_flatMap.1 hx
            exact ⟨(unpackS_bd p x hx).1, (hfit p (hrp p hp)).2.2 x hx⟩
          have hrwl2 : 1 ≤ rw_.length ∧ rw_.length ≤ 12288 := by rw [hrwl]; rcases hch with e | e <;> rw [e] <;> simp <;> omega
          have hRBl : (rowB K (wideM M) rw_).length = strd K W (wideM M) := by
            by_cases h9 : K = 4
            · have e1 : (chK K).toNat = 1 := by rw [h9]; rfl
              rw [show rowB K (wideM M) rw_ = packB rw_ from if_pos h9, show strd K W (wideM M) = (W + 7) / 8 from if_pos h9, packB_len, hrwl, e1, Nat.mul_one]
            · rw [show rowB K (wideM M) rw_ = rw_.flatMap (encS (wideM M)) from if_neg h9, show strd K W (wideM M) = W * (chK K).toNat * wideM M from if_neg h9, enc_len hw, hrwl]
          have hw2 : wideM M = 2 := if_pos (by omega)
          refine Wp.exit ?_
          refine Wp.seq ?_
          refine Wp.seq ?_
          refine Wp.region ?_
          refine s_fa (o2 := 0) rfl rfl rfl ?_
          refine s_ld rfl rfl (by rfl) ?_
          refine s_eq rfl rfl rfl ?_
          refine WpL.nil ?_
          refine Wp.condDF rfl hK ?_
          refine Wp.skip ?_
          refine Wp.seq ?_
          refine Wp.seq ?_
          refine Wp.region ?_
          refine s_mv rfl rfl ?_
          refine s_lenl rfl rfl ?_
          refine s_mv rfl rfl ?_
          refine WpL.nil ?_
          refine Wp.block ?_
          refine Wp.loopD (σ := WjX) (fun z => z.j ≤ rw_.length ∧ z.m = ((rw_.take z.j).flatMap (encS (wideM M))).length) [12, 17, 82, 83, 84, 85, 86, 87, 88, 89, 90, 91, 92, 93, 94, 95, 96, 97, 98, 99, 100, 101, 102, 103, 104, 105, 106, 107] (fun z => [(82, .int .i64 (z.j : Int)), (12, .slice z.a z.m z.c)]) (fun z => [own 5 1 z.a z.c z.m (u8s ((rw_.take z.j).flatMap (encS (wideM M)))), own 3 1 aR cR rw_.length (ints (rw_)), own 5 1 (some ⟨gO, 0, none⟩) (st * Hn) (st * Hn) (u8s (wrRaw K W (wideM M) px y ++ zs (st * Hn - st * y))), blk g1 [.int .i64 K, .int .i64 (W : Int), .int .i64 (Hn : Int), .int .i64 M] 32, A0]) (fun z => rw_.length - z.j) ⟨0, none, 0, 0⟩ ?_ (by repeat (first | exact FrLe.nil | refine FrLe.cons rfl ?_)) ?_ ?_
          · exact ⟨Nat.zero_le _, rfl⟩
          · exact Ent.own_nil (T := 5) (s := 1) (Ent.refl _)
          · rintro ⟨k, aB, cB, mB⟩ ⟨hk, hmB⟩
            dsimp only at hk hmB ⊢
            have hmBl := enc_le (wideM M) (rw_.take k)
            rw [← hmB, List.length_take] at hmBl
            refine Wp.seq ?_
            refine Wp.region ?_
            refine s_lt rfl rfl rfl ?_
            refine WpL.nil ?_
            refine Wp.seq ?_
            refine Wp.condD rfl (fun h7 => ?_) (fun h7 => ?_)
            · have hlk : k < rw_.length := by omega
              have hxb := hrwb _ (List.getElem_mem hlk)
              refine Wp.skip ?_
              refine Wp.seq ?_
              refine Wp.block ?_
              refine Wp.seq ?_
              refine Wp.region ?_
              refine s_ixa k rfl rfl rfl RdsL.own (by first | exact Take.ent' (by repeat' constructor) | (repeat (first | exact Ent.refl _ | refine Ent.drop ?_))) rfl (by omega) (by rw [ints_len]; omega) ?_
              refine s_ldx rfl rfl RdsL.own (by first | exact Take.ent' (by repeat' constructor) | (repeat (first | exact Ent.refl _ | refine Ent.drop ?_))) (ints_at rw_ hlk) ?_
              refine s_as rfl rfl ?_
              refine WpL.nil ?_
              refine Wp.block ?_
              refine Wp.seq ?_
              refine Wp.region ?_
              refine s_fa (o2 := 0) rfl rfl rfl ?_
              refine s_ld rfl rfl (by rfl) ?_
              refine s_eq rfl rfl rfl ?_
              refine s_as rfl rfl ?_
              refine WpL.nil ?_
              refine Wp.condDF rfl hK ?_
              refine Wp.seq ?_
              refine Wp.region ?_
              refine s_lda (vs := [_, _, _, _]) rfl rfl rfl (by rfl) ?_
              refine s_callf rfl rfl (by repeat' constructor) (wide_spec _ _ _ _) ?_
              rintro _ _ ⟨rfl, rfl⟩
              simp only [napp]
              refine s_eq rfl rfl rfl ?_
              refine s_as rfl rfl ?_
              refine WpL.nil ?_
              refine Wp.condDF rfl (by omega) ?_
              refine Wp.region ?_
              refine s_mv rfl rfl ?_
              refine s_mv rfl rfl ?_
              refine s_shr 256 rfl rfl rfl (by decide) (by decide) ?_
              refine s_cvi rfl Try.underlying3 rfl (w_u8 (by omega) (by omega)) ?_
              refine s_mv rfl rfl ?_
              refine s_cviw rfl Try.underlying3 rfl ?_
              rw [wrap_u8]
              refine s_bs2 rfl rfl rfl rfl rfl rfl ?_
              intro g3
              refine s_app1 rfl rfl rfl (by repeat' constructor) (by rfl) (by rfl) (by rfl) (by rfl) (by omega) (by omega) ?_
              intro aN cN
              rw [show ([.int .u8 (rw_[k]'hlk / 256), .int .u8 (rw_[k]'hlk % 256)] : List Value) = u8s (encS (wideM M) (rw_[k]'hlk)) from by rw [hw2]; rfl, show ∀ xs ys : List Int, u8s xs ++ u8s ys = u8s (xs ++ ys) from fun xs ys => by simp [u8s], enc_snoc hlk]
              refine s_as rfl rfl ?_
              refine WpL.nil ?_
              refine Wp.region ?_
              first | refine s_add rfl rfl rfl (w_i64 (by omega) (by omega)) ?_ | refine s_addw rfl rfl rfl ?_
              refine s_mv rfl rfl ?_
              refine WpL.nil ?_
              refine loopD.next (⟨k + 1, aN, cN, mB + 2⟩ : WjX) ?_ ?_ (by repeat (first | exact Top.refl | refine Top.push rfl ?_ | refine Top.drop rfl ?_)) (by repeat (first | exact FrLe.nil | refine FrLe.cons rfl ?_)) ?_
              · exact ⟨by simp only; omega, by simp only; rw [← enc_snoc hlk, List.length_append, ← hmB, hw2, encS2]; rfl⟩
              · simp only; omega
              · first | exact Ent.refl _ | exact Ent.nil _ | exact Take.ent' (by repeat' constructor) | (repeat (first | exact Ent.refl _ | refine Ent.drop ?_))
            · have hke : k = rw_.length := by omega
              subst hke
              rw [List.take_length] at hmB ⊢
              have hRB : rowB K (wideM M) rw_ = rw_.flatMap (encS (wideM M)) := if_neg hK
              rw [← hRB] at hmB ⊢
              have hmst : mB = st := hmB.trans (hRBl.trans hstd.symm)
              rw [hmst]
              refine Wp.exit ?_
              refine Wp.region ?_
              refine s_mv rfl rfl ?_
              refine s_mv rfl rfl ?_
              refine s_lda (vs := [_, _, _, _]) rfl rfl rfl (by rfl) ?_
              refine s_callf rfl rfl (by repeat' constructor) (Stride_spec _ _ _ _ hR) ?_
              rintro _ _ ⟨rfl, rfl⟩
              simp only [napp]
              rw [← hstd]
              refine s_mul rfl rfl rfl (w_i64 (by omega) (by omega)) ?_
              rw [hyst]
              refine s_sll_l (L := st * y) rfl rfl rfl rfl (by omega) ?_
              refine s_mv rfl rfl ?_
              refine s_copyo rfl rfl rfl (by repeat' constructor) (by omega) (by omega) (by omega) (u8s_one _) ?_
              rw [row_putU (by rw [hstd]; exact wrRaw_len hw hpl hul y hy) (hRBl.trans hstd.symm) hyN, show rowB K (wideM M) rw_ = rowB K (wideM M) (((px.drop (y * W)).take W).flatMap unpackS) from by rw [hrw, hrow], ← wrRaw_succ]
              refine WpL.nil ?_
              refine Wp.region ?_
              first | refine s_add rfl rfl rfl (w_i64 (by omega) (by omega)) ?_ | refine s_addw rfl rfl rfl ?_
              refine s_mv rfl rfl ?_
              refine WpL.nil ?_
              refine loopD.next (⟨y + 1⟩ : WyX) ?_ ?_ (by repeat (first | exact Top.refl | refine Top.push rfl ?_ | refine Top.drop rfl ?_)) (by repeat (first | exact FrLe.nil | refine FrLe.cons rfl ?_)) ?_
              · simp only; omega
              · simp only; omega
              · first | exact Ent.refl _ | exact Ent.nil _ | exact Take.ent' (by repeat' constructor) | (repeat (first | exact Ent.refl _ | refine Ent.drop ?_))
    · have hye : y = Hn := by omega
      have hwl := wrRaw_len (K := K) (w := wideM M) hw hpl hul Hn (Nat.le_refl _)
      rw [← hstd] at hwl
      rw [hye, show zs (st * Hn - st * Hn) = [] from by rw [Nat.sub_self]; rfl, List.append_nil, ← hwl]
      refine Wp.exit ?_
      refine Wp.seq ?_
      refine Wp.region ?_
      refine s_mv rfl rfl ?_
      refine s_as rfl rfl ?_
      refine s_as rfl rfl ?_
      refine WpL.nil ?_
      refine Wp.ret ?_
      apply RetQ.mk
      · exact (Res.two rfl rfl rfl)
      · exact ⟨_, _, rfl, Nat.le_refl _, rfl⟩
      · first | exact Ent.refl _ | exact Ent.nil _ | exact Take.ent' (by repeat' constructor) | (repeat (first | exact Ent.refl _ | refine Ent.drop ?_))

end Go.Proofs.Ytpoahaadnbdgcaa
