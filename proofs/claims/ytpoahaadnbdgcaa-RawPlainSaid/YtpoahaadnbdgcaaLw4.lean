/- Walks. -/
import Derived.Test.YtpoahaadnbdgcaaLw3
import Derived.Test.YtpoahaadnbdgcaaStr
namespace Go.Proofs.Ytpoahaadnbdgcaa
open Go.RowKit Go.Shelf


theorem bsOf_app (a b : ByteArray) : bsOf (a ++ b) = bsOf a ++ bsOf b := by simp [bsOf, ByteArray.data_append]
theorem bsOf_nums {xs : List Int} (h : ∀ x ∈ xs, 0 ≤ x ∧ x ≤ 255) : bsOf (strOfNums xs) = xs := by
  unfold bsOf strOfNums
  simp only [List.map_map]
  conv => rhs; rw [← List.map_id xs]
  refine List.map_congr_left fun x hx => ?_
  have := h x hx
  simp only [Function.comp, UInt8.toNat_ofNat', id]
  omega
theorem size_nums (xs : List Int) : (strOfNums xs).size = xs.length := by simp [strOfNums, ByteArray.size]
theorem bsOf_ext1 {s : ByteArray} {k : Nat} (h : k < s.size) : bsOf (s.extract k (k + 1)) = [((s[k]'h).toNat : Int)] := by
  have hk : k < (bsOf s).length := by rw [bsOf_len]; exact h
  have e1 : bsOf (s.extract k (k + 1)) = ((bsOf s).drop k).take 1 := by
    simp [bsOf, ByteArray.data_extract]
  rw [e1, bsOf_drop h]
  simp
theorem digs_len (n : Nat) : (digs n).length ≤ n + 1 := by
  induction n using Nat.strongRecOn with
  | _ n ih =>
    rw [digs]
    split
    · simp
    · have := ih (n / 10) (by omega)
      simp only [List.length_append, List.length_cons, List.length_nil]
      omega
theorem digs_rec {n : Int} (h : 10 ≤ n) : digs n.toNat = digs (n / 10).toNat ++ [48 + n % 10] := by
  rw [digs, if_neg (by omega)]
  congr 1
  · congr 1; omega
  · congr 1; omega
theorem can_of_fit {p ch M : Int} (h0 : 0 ≤ p) (h1 : p < 18446744073709551616) (h : FitP p ch M) : Can ch M p := by
  obtain ⟨hf, hl, hs⟩ := h
  unfold FmtP at hf
  refine ⟨hl, ?_, fun x hx => ⟨?_, hs x hx⟩⟩
  · unfold unpackS at hl ⊢
    split
    · rename_i h3
      rw [pack_three (by unfold smp; omega) (by unfold smp; omega) (by unfold smp; omega)]
      simp only
      omega
    · rename_i h3
      split
      · rename_i h4
        rw [pack_one (by unfold smp; omega)]
        simp only
        omega
      · rename_i h4
        rw [if_neg h3, if_neg h4] at hl
        simp at hl
        omega
  · unfold unpackS at hx
    split at hx
    · simp at hx; omega
    · split at hx
      · simp at hx; omega
      · simp at hx



theorem gd_step {xs : List Int} {f : Int → Int} {n k : Nat} (h : k < xs.length) (hn : xs.length = n) : (ints ((xs.take k).map f) ++ List.replicate (n - k) (Value.int .i64 0)).set (0 + k * 1) (.int .i64 (f xs[k])) = ints ((xs.take (k + 1)).map f) ++ List.replicate (n - (k + 1)) (Value.int .i64 0) := by
  rw [take_snoc' xs h, List.map_append, List.map_cons, List.map_nil, ← ints_snoc]
  have hl : (ints ((xs.take k).map f)).length = k := by rw [ints_len, List.length_map, List.length_take]; omega
  rw [List.set_append_right _ _ (by omega), hl, show 0 + k * 1 - k = 0 by omega, show n - k = (n - (k + 1)) + 1 by omega, List.replicate_succ, List.set_cons_zero, List.append_assoc]
  rfl

theorem GoodPx_spec (As : List HP) (a : Option Addr) (c : Nat) (xs : List Int) (ch mx : Int) (hA : RdsL As a (ints xs)) (hr : ∀ x ∈ xs, -9223372036854775808 ≤ x ∧ x < 9223372036854775808) (hl : (xs.length : Int) = ch) (hc : ch = 1 ∨ ch = 3) (hm : 1 ≤ mx) (hm2 : mx ≤ 65535) : Fn Try.prog 14 #[.slice a xs.length c, .agg #[.int .i64 ch, .int .i64 mx]] As (fun v l => v = .int .u64 (packS (xs.map (fun x => aroundI x (mx + 1)))).1 ∧ l = As) := by
  refine Fn.intro (vs := [.slice a xs.length c, .agg #[.int .i64 ch, .int .i64 mx]]) Try.func14 rfl Try.ntmps14 rfl ?_
  refine Wp.seq ?_
  refine Wp.region ?_
  refine s_box rfl rfl rfl ?_
  intro g1
  refine s_as rfl rfl ?_
  refine WpL.nil ?_
  refine Wp.seq ?_
  refine Wp.region ?_
  refine s_fa (o2 := 0) rfl rfl rfl ?_
  refine s_ld rfl rfl (by rfl) ?_
  refine s_mkF rfl rfl (by omega) (by omega) (by omega) rfl ?_
  intro gO
  refine s_as rfl rfl ?_
  refine WpL.nil ?_
  refine Wp.seq ?_
  refine Wp.seq ?_
  refine Wp.region ?_
  refine s_as rfl rfl ?_
  refine WpL.nil ?_
  refine Wp.block ?_
  refine Wp.loopD (σ := Nat) (fun k => k ≤ xs.length) [6, 12, 13, 14, 15, 16, 17, 18, 19, 20, 21, 22, 23, 24, 25, 26, 27, 28, 29, 30, 31, 32, 33, 34] (fun k => [(6, .int .i64 (k : Int))]) (fun k => (blk gO (ints ((xs.take k).map (fun x => aroundI x (mx + 1))) ++ List.replicate (ch.toNat - k) (Value.int .i64 0)) 3) :: (blk g1 [.int .i64 ch, .int .i64 mx] 43) :: As) (fun k => xs.length - k) 0 ?_ (by repeat (first | exact FrLe.nil | refine FrLe.cons rfl ?_)) ?_ ?_
  · exact Nat.zero_le _
  · rw [List.take_zero, Nat.sub_zero]
    exact Ent.refl _
  · rintro k hk
    refine Wp.seq ?_
    refine Wp.seq ?_
    refine Wp.region ?_
    refine s_mv rfl rfl ?_
    refine s_mv rfl rfl ?_
    refine s_lenl rfl rfl ?_
    refine s_lt rfl rfl rfl ?_
    refine s_mv rfl rfl ?_
    refine WpL.grd rfl rfl rfl (fun hg1 => ?_) (fun hg1 => ?_)
    · have hg1 := of_decide_eq_true hg1
      refine s_mv rfl rfl ?_
      refine WpL.gon rfl rfl ?_
      refine s_mv rfl rfl ?_
      refine WpL.gon rfl rfl ?_
      refine s_lenl rfl rfl ?_
      refine WpL.gon rfl rfl ?_
      refine s_lt rfl rfl rfl ?_
      refine s_pickT rfl rfl rfl ?_
      refine WpL.nil ?_
      refine Wp.condD rfl (fun h1 => ?_) (fun h1 => ?_)
      · have hlt : k < xs.length := by omega
        refine Wp.skip ?_
        refine Wp.seq ?_
        refine Wp.block ?_
        apply Wp.drawGN (fB := []) mixed [(11, false)] (by kernel_rfl)
        apply GoR.segF [⟨0, 24, _, [], false⟩, ⟨1, 25, _, [], false⟩, ⟨2, 26, _, [], false⟩, ⟨3, 27, _, [], false⟩, ⟨4, 28, _, [2, 3], false⟩, ⟨5, 29, _, [4], false⟩, ⟨6, 30, _, [], false⟩, ⟨7, 31, _, [6], false⟩, ⟨8, 32, _, [7], false⟩, ⟨9, 33, _, [5, 8], false⟩, ⟨10, 34, _, [0, 1, 2, 3, 4, 5, 6, 7, 8, 9], false⟩] [] [0, 1, 2, 3, 4, 5, 6, 7, 8, 9, 10] [] ⟨_, .nil⟩ rfl rfl rfl (by kernel_rfl) rfl rfl rfl
        · refine AllF.cons rfl rfl rfl rfl ?_ ?_
          · refine s_mv rfl rfl ?_
            exact obN rfl
          refine AllF.cons rfl rfl rfl rfl ?_ ?_
          · refine s_mv rfl rfl ?_
            exact obN rfl
          refine AllF.cons rfl rfl rfl rfl ?_ ?_
          · refine s_mv rfl rfl ?_
            exact obN rfl
          refine AllF.cons rfl rfl rfl rfl ?_ ?_
          · refine s_mv rfl rfl ?_
            exact obN rfl
          refine AllF.cons rfl rfl rfl rfl ?_ ?_
          · refine s_ixa k rfl rfl rfl hA (by first | exact Take.ent' (by repeat' constructor) | (repeat (first | exact Ent.refl _ | refine Ent.drop ?_))) rfl (by omega) (by rw [ints_len]; omega) ?_
            exact obN rfl
          refine AllF.cons rfl rfl rfl rfl ?_ ?_
          · refine s_ldx rfl rfl hA (by first | exact Take.ent' (by repeat' constructor) | (repeat (first | exact Ent.refl _ | refine Ent.drop ?_))) (ints_at xs hlt) ?_
            exact obN rfl
          refine AllF.cons rfl rfl rfl rfl ?_ ?_
          · refine s_fa (o2 := 1) rfl rfl rfl ?_
            exact obN rfl
          refine AllF.cons rfl rfl rfl rfl ?_ ?_
          · refine s_ld rfl rfl (by rfl) ?_
            exact obN rfl
          refine AllF.cons rfl rfl rfl rfl ?_ ?_
          · first | refine s_add rfl rfl rfl (w_i64 (by omega) (by omega)) ?_ | refine s_addw rfl rfl rfl ?_
            exact obN rfl
          refine AllF.cons rfl rfl rfl rfl ?_ ?_
          · refine s_callf rfl rfl (by repeat' constructor) (Around_spec _ _ (hr _ (List.getElem_mem hlt)).1 (hr _ (List.getElem_mem hlt)).2 (by omega)) ?_
            rintro _ _ ⟨rfl, rfl⟩
            simp only [napp]
            exact WpL.nil ⟨rfl, rfl, rfl, by first | exact Ent.refl _ | exact Ent.nil _ | exact Take.ent' (by repeat' constructor) | (repeat (first | exact Ent.refl _ | refine Ent.drop ?_))⟩
          refine AllF.cons rfl rfl rfl rfl ?_ ?_
          · refine s_ixA (k := k) rfl rfl rfl (by omega) ?_
            exact obN rfl
          exact AllF.nil
        · refine s_stk rfl rfl rfl (by simp [ints_len]; omega) ?_
          rw [gd_step hlt (by omega)]
          refine WpL.nil ⟨rfl, rfl, ?_⟩
          apply GoR.nil [] ⟨_, .nil⟩ rfl rfl
          · exact AllF.nil
          · refine Wp.region ?_
            refine s_mv rfl rfl ?_
            first | refine s_add rfl rfl rfl (w_i64 (by omega) (by omega)) ?_ | refine s_addw rfl rfl rfl ?_
            refine s_as rfl rfl ?_
            refine WpL.nil ?_
            refine loopD.next (k + 1) ?_ ?_ (by repeat (first | exact Top.refl | refine Top.push rfl ?_ | refine Top.drop rfl ?_)) (by repeat (first | exact FrLe.nil | refine FrLe.cons rfl ?_)) ?_
            · omega
            · omega
            · first | exact Ent.refl _ | exact Ent.nil _ | exact Take.ent' (by repeat' constructor) | (repeat (first | exact Ent.refl _ | refine Ent.drop ?_))
      · refine Wp.exit ?_
        refine Wp.seq ?_
        refine Wp.region ?_
        refine s_mv rfl rfl ?_
        have hke : k = xs.length := by omega
        have hle : ch.toNat = (xs.map (fun x => aroundI x (mx + 1))).length := by rw [List.length_map]; omega
        rw [show ints ((xs.take k).map (fun x => aroundI x (mx + 1))) ++ List.replicate (ch.toNat - k) (Value.int .i64 0) = ints (xs.map (fun x => aroundI x (mx + 1))) by rw [hke, List.take_length, show ch.toNat - xs.length = 0 by omega]; simp, hle]
        refine s_callf rfl rfl (by repeat' constructor) (rPack_spec [_] _ _ (xs.map (fun x => aroundI x (mx + 1))) (RdsL.blk (by rw [List.drop_zero, ints_len, ← ints_len, List.take_length])) (by rw [List.length_map]; omega)) ?_
        rintro _ _ ⟨rfl, rfl⟩
        simp only [napp]
        refine s_mv rfl rfl ?_
        refine s_ext rfl rfl rfl ?_
        refine s_ext rfl rfl rfl ?_
        refine s_as rfl rfl ?_
        refine s_as rfl rfl ?_
        refine WpL.nil ?_
        refine Wp.seq ?_
        refine Wp.region ?_
        refine s_mv rfl rfl ?_
        refine s_as rfl rfl ?_
        refine WpL.nil ?_
        refine Wp.ret ?_
        apply RetQ.mk
        · exact (Res.one rfl rfl)
        · exact ⟨rfl, rfl⟩
        · first | exact Ent.refl _ | exact Ent.nil _ | exact Take.ent' (by repeat' constructor) | (repeat (first | exact Ent.refl _ | refine Ent.drop ?_))
    · have hg1 := of_decide_eq_false hg1
      refine WpL.goff rfl rfl rfl (by decide) ?_
      refine WpL.goff rfl rfl rfl (by decide) ?_
      refine WpL.goff rfl rfl rfl (by decide) ?_
      refine s_pickF rfl rfl rfl ?_
      refine WpL.nil ?_
      refine Wp.condF rfl ?_
      refine Wp.exit ?_
      refine Wp.seq ?_
      refine Wp.region ?_
      refine s_mv rfl rfl ?_
      have hke : k = xs.length := by omega
      have hle : ch.toNat = (xs.map (fun x => aroundI x (mx + 1))).length := by rw [List.length_map]; omega
      rw [show ints ((xs.take k).map (fun x => aroundI x (mx + 1))) ++ List.replicate (ch.toNat - k) (Value.int .i64 0) = ints (xs.map (fun x => aroundI x (mx + 1))) by rw [hke, List.take_length, show ch.toNat - xs.length = 0 by omega]; simp, hle]
      refine s_callf rfl rfl (by repeat' constructor) (rPack_spec [_] _ _ (xs.map (fun x => aroundI x (mx + 1))) (RdsL.blk (by rw [List.drop_zero, ints_len, ← ints_len, List.take_length])) (by rw [List.length_map]; omega)) ?_
      rintro _ _ ⟨rfl, rfl⟩
      simp only [napp]
      refine s_mv rfl rfl ?_
      refine s_ext rfl rfl rfl ?_
      refine s_ext rfl rfl rfl ?_
      refine s_as rfl rfl ?_
      refine s_as rfl rfl ?_
      refine WpL.nil ?_
      refine Wp.seq ?_
      refine Wp.region ?_
      refine s_mv rfl rfl ?_
      refine s_as rfl rfl ?_
      refine WpL.nil ?_
      refine Wp.ret ?_
      apply RetQ.mk
      · exact (Res.one rfl rfl)
      · exact ⟨rfl, rfl⟩
      · first | exact Ent.refl _ | exact Ent.nil _ | exact Take.ent' (by repeat' constructor) | (repeat (first | exact Ent.refl _ | refine Ent.drop ?_))


theorem get_one {zs : List Int} {i : Nat} (h : i < zs.length) (hz : ∀ x ∈ zs, -9223372036854775808 ≤ x ∧ x < 9223372036854775808) : -9223372036854775808 ≤ zs[i] ∧ zs[i] < 9223372036854775808 := hz _ (List.getElem_mem h)

theorem rFormat_spec (K W H M : Int) (hK : 1 ≤ K) (hK6 : K ≤ 6) : Fn Try.prog 13 #[.agg #[.int .i64 K, .int .i64 W, .int .i64 H, .int .i64 M]] [] (fun v l => v = .agg #[.int .i64 (chK K), .int .i64 M] ∧ l = []) := by
  refine Fn.intro (vs := [.agg #[.int .i64 K, .int .i64 W, .int .i64 H, .int .i64 M]]) Try.func13 rfl Try.ntmps13 rfl ?_
  refine Wp.seq ?_
  refine Wp.region ?_
  refine s_box rfl rfl rfl ?_
  intro g1
  refine s_al rfl ?_
  intro g2
  refine WpL.nil ?_
  refine Wp.seq ?_
  refine Wp.seq ?_
  refine Wp.region ?_
  refine s_fa (o2 := 0) rfl rfl rfl ?_
  refine s_ld rfl rfl (by rfl) ?_
  refine s_eq rfl rfl rfl ?_
  refine s_mv rfl rfl ?_
  refine WpL.grd rfl rfl rfl (fun hg1 => ?_) (fun hg1 => ?_)
  · have hg1 := of_decide_eq_false hg1
    refine s_fa (o2 := 0) rfl rfl rfl ?_
    refine WpL.gon rfl rfl ?_
    refine s_ld rfl rfl (by rfl) ?_
    refine WpL.gon rfl rfl ?_
    refine s_eq rfl rfl rfl ?_
    refine s_pickF rfl rfl rfl ?_
    refine WpL.nil ?_
    refine Wp.condD rfl (fun h0 => ?_) (fun h0 => ?_)
    · refine Wp.seq ?_
      refine Wp.region ?_
      refine s_fa (o2 := 3) rfl rfl rfl ?_
      refine s_ld rfl rfl (by rfl) ?_
      refine s_bd rfl rfl ?_
      refine s_sta rfl rfl rfl (by rfl) rfl ?_
      refine WpL.nil ?_
      refine Wp.ret ?_
      apply RetQ.mk
      · exact (RetQ.cell rfl rfl (by rfl))
      · first | exact ⟨by rw [show chK K = 3 from if_pos (by omega)], rfl⟩ | exact ⟨by rw [show chK K = 1 from if_neg (by omega)], rfl⟩
      · first | exact Ent.refl _ | exact Ent.nil _ | exact Take.ent' (by repeat' constructor) | (repeat (first | exact Ent.refl _ | refine Ent.drop ?_))
    · refine Wp.skip ?_
      refine Wp.seq ?_
      refine Wp.region ?_
      refine s_fa (o2 := 3) rfl rfl rfl ?_
      refine s_ld rfl rfl (by rfl) ?_
      refine s_bd rfl rfl ?_
      refine s_sta rfl rfl rfl (by rfl) rfl ?_
      refine WpL.nil ?_
      refine Wp.ret ?_
      apply RetQ.mk
      · exact (RetQ.cell rfl rfl (by rfl))
      · first | exact ⟨by rw [show chK K = 3 from if_pos (by omega)], rfl⟩ | exact ⟨by rw [show chK K = 1 from if_neg (by omega)], rfl⟩
      · first | exact Ent.refl _ | exact Ent.nil _ | exact Take.ent' (by repeat' constructor) | (repeat (first | exact Ent.refl _ | refine Ent.drop ?_))
  · have hg1 := of_decide_eq_true hg1
    refine WpL.goff rfl rfl rfl (by decide) ?_
    refine WpL.goff rfl rfl rfl (by decide) ?_
    refine s_pickT rfl rfl rfl ?_
    refine WpL.nil ?_
    refine Wp.condT rfl ?_
    refine Wp.seq ?_
    refine Wp.region ?_
    refine s_fa (o2 := 3) rfl rfl rfl ?_
    refine s_ld rfl rfl (by rfl) ?_
    refine s_bd rfl rfl ?_
    refine s_sta rfl rfl rfl (by rfl) rfl ?_
    refine WpL.nil ?_
    refine Wp.ret ?_
    apply RetQ.mk
    · exact (RetQ.cell rfl rfl (by rfl))
    · first | exact ⟨by rw [show chK K = 3 from if_pos (by omega)], rfl⟩ | exact ⟨by rw [show chK K = 1 from if_neg (by omega)], rfl⟩
    · first | exact Ent.refl _ | exact Ent.nil _ | exact Take.ent' (by repeat' constructor) | (repeat (first | exact Ent.refl _ | refine Ent.drop ?_))

structure PxX where
  (k : Nat) (out : List Int) (a : Option Addr) (c : Nat)
structure PoX where
  (j : Nat) (one : List Int) (a : Option Addr) (c : Nat)


theorem pack_bd {xs : List Int} (h : xs.length = 1 ∨ xs.length = 3) (hs : ∀ n ∈ xs, smp n) : 0 ≤ (packS xs).1 ∧ (packS xs).1 < 18446744073709551616 := by
  have := packF_all (l := xs) (by omega) hs
  rw [packS_ok xs h hs]
  simp only
  omega
theorem px_good {one : List Int} {ch M : Int} (hch : ch = 1 ∨ ch = 3) (hl : (one.length : Int) = ch) (hM : 1 ≤ M) (hM2 : M ≤ 65535) : Can ch M (packS (one.map fun x => aroundI x (M + 1))).1 ∧ 0 ≤ (packS (one.map fun x => aroundI x (M + 1))).1 ∧ (packS (one.map fun x => aroundI x (M + 1))).1 < 18446744073709551616 := by
  have hs : ∀ n ∈ one.map fun x => aroundI x (M + 1), 0 ≤ n ∧ n ≤ M := fun n hn => by
    obtain ⟨x, _, rfl⟩ := List.mem_map.1 hn
    have := aroundI_bd (x := x) (m := M + 1) (by omega)
    omega
  refine ⟨can_pack hch (by rw [List.length_map]; exact hl) hM2 hs, pack_bd (by rw [List.length_map]; omega) fun n hn => ?_⟩
  have := hs n hn
  unfold smp
  omega

set_option maxHeartbeats 4000000 in
theorem PixelsM_spec (A0 : HP) (a0 : Option Addr) (c0 : Nat) (zs : List Int) (hz : ∀ x ∈ zs, -9223372036854775808 ≤ x ∧ x < 9223372036854775808) (hzl : zs.length ≤ 9223372036854775807) (hA : RdsL [A0] a0 (ints zs)) (K W H M : Int) (hP : MayH K W H M) (hWH : W * H ≤ 300000) (hWH0 : 0 ≤ W * H) : Fn Try.prog 5 #[.slice a0 zs.length c0, .agg #[.int .i64 K, .int .i64 W, .int .i64 H, .int .i64 M]] [A0] (fun v l => ∃ out a c, v = .slice a out.length c ∧ (out.length : Int) = W * H ∧ (∀ p ∈ out, Can (chK K) M p ∧ 0 ≤ p ∧ p < 18446744073709551616) ∧ l = [own 46 1 a c out.length (pxs out), A0]) := by
  have hP2 := hP
  unfold MayH at hP2
  have hch : chK K = 1 ∨ chK K = 3 := by unfold chK; split <;> simp
  have hcf : (if K % 3 = 0 then (3 : Int) else 1) = chK K := rfl
  refine Fn.intro (vs := [.slice a0 zs.length c0, .agg #[.int .i64 K, .int .i64 W, .int .i64 H, .int .i64 M]]) Try.func5 rfl Try.ntmps5 rfl ?_
  refine Wp.seq ?_
  refine Wp.region ?_
  refine s_box rfl rfl rfl ?_
  intro g1
  refine s_as rfl rfl ?_
  refine WpL.nil ?_
  refine Wp.seq ?_
  refine Wp.region ?_
  refine s_lda (vs := [_, _, _, _]) rfl rfl rfl (by rfl) ?_
  refine s_callf rfl rfl (by repeat' constructor) (rFormat_spec _ _ _ _ (by omega) (by omega)) ?_
  rintro _ _ ⟨rfl, rfl⟩
  simp only [napp]
  refine s_al rfl ?_
  intro gF
  refine s_sta rfl rfl rfl (by rfl) rfl ?_
  refine WpL.nil ?_
  refine Wp.seq ?_
  refine Wp.region ?_
  refine s_as rfl rfl ?_
  refine WpL.nil ?_
  refine Wp.seq ?_
  refine Wp.seq ?_
  refine Wp.region ?_
  refine s_as rfl rfl ?_
  refine WpL.nil ?_
  refine Wp.block ?_
  refine Wp.loopD (σ := PxX) (fun x => (x.k : Int) ≤ W * H ∧ x.out.length = x.k ∧ ∀ p ∈ x.out, Can (chK K) M p ∧ 0 ≤ p ∧ p < 18446744073709551616) [6, 7, 8, 9, 10, 13, 14, 15, 16, 17, 18, 19, 20, 21, 22, 23, 24, 25, 26, 27, 28, 29, 30, 31, 32, 33, 34, 35, 36, 37, 38, 39, 40, 41, 42, 43, 44, 45, 46, 47, 48, 49, 50, 51, 52] (fun x => [(7, .int .i64 (x.k : Int)), (6, .slice x.a x.out.length x.c)]) (fun x => [own 46 1 x.a x.c x.out.length (pxs x.out), blk gF [.int .i64 (chK K), .int .i64 M] 43, blk g1 [.int .i64 K, .int .i64 W, .int .i64 H, .int .i64 M] 23, A0]) (fun x => (W * H).toNat - x.k) ⟨0, [], none, 0⟩ ?_ (by repeat (first | exact FrLe.nil | refine FrLe.cons rfl ?_)) ?_ ?_
  · exact ⟨by simpa using hWH0, rfl, by simp⟩
  · exact Ent.own_nil (Ent.refl _)
  · rintro ⟨k, out, a, c⟩ ⟨hk, hol, hcan⟩
    dsimp only at hk hol hcan ⊢
    refine Wp.seq ?_
    refine Wp.seq ?_
    refine Wp.region ?_
    refine s_mv rfl rfl ?_
    refine s_fa (o2 := 1) rfl rfl rfl ?_
    refine s_ld rfl rfl (by rfl) ?_
    refine s_fa (o2 := 2) rfl rfl rfl ?_
    refine s_ld rfl rfl (by rfl) ?_
    refine s_mul rfl rfl rfl (w_i64 (by omega) (by omega)) ?_
    refine s_lt rfl rfl rfl ?_
    refine WpL.nil ?_
    refine Wp.condD rfl (fun h1 => ?_) (fun h1 => ?_)
    · have hmul : 0 ≤ (k : Int) * chK K ∧ (k : Int) * chK K ≤ 900000 := by rcases hch with h | h <;> rw [h] <;> omega
      refine Wp.skip ?_
      refine Wp.seq ?_
      refine Wp.block ?_
      refine Wp.seq ?_
      refine Wp.region ?_
      refine s_as rfl rfl ?_
      refine WpL.nil ?_
      refine Wp.seq ?_
      refine Wp.seq ?_
      refine Wp.region ?_
      refine s_as rfl rfl ?_
      refine WpL.nil ?_
      refine Wp.block ?_
      refine Wp.loopD (σ := PoX) (fun y => (y.j : Int) ≤ chK K ∧ y.one.length = y.j ∧ ∀ x ∈ y.one, -9223372036854775808 ≤ x ∧ x < 9223372036854775808) [8, 9, 10, 22, 23, 24, 25, 26, 27, 28, 29, 30, 31, 32, 33, 34, 35, 36, 37, 38, 39, 40, 41, 42, 43, 44, 45, 46] (fun y => [(9, .int .i64 (y.j : Int)), (8, .slice y.a y.one.length y.c)]) (fun y => [own 3 1 y.a y.c y.one.length (ints y.one), own 46 1 a c out.length (pxs out), blk gF [.int .i64 (chK K), .int .i64 M] 43, blk g1 [.int .i64 K, .int .i64 W, .int .i64 H, .int .i64 M] 23, A0]) (fun y => (chK K).toNat - y.j) ⟨0, [], none, 0⟩ ?_ (by repeat (first | exact FrLe.nil | refine FrLe.cons rfl ?_)) ?_ ?_
      · exact ⟨by simp; omega, rfl, by simp⟩
      · exact Ent.own_nil (Ent.refl _)
      · rintro ⟨j, one, a1, c1⟩ ⟨hj, hon, hor⟩
        dsimp only at hj hon hor ⊢
        refine Wp.seq ?_
        refine Wp.seq ?_
        refine Wp.region ?_
        refine s_mv rfl rfl ?_
        refine s_fa (o2 := 0) rfl rfl rfl ?_
        refine s_ld rfl rfl (by rfl) ?_
        refine s_lt rfl rfl rfl ?_
        refine WpL.nil ?_
        refine Wp.condD rfl (fun h3 => ?_) (fun h3 => ?_)
        · refine Wp.skip ?_
          refine Wp.seq ?_
          refine Wp.block ?_
          refine Wp.seq ?_
          refine Wp.region ?_
          refine s_as rfl rfl ?_
          refine WpL.nil ?_
          refine Wp.seq ?_
          refine Wp.seq ?_
          refine Wp.region ?_
          refine s_mv rfl rfl ?_
          refine s_lenl rfl rfl ?_
          refine s_gt rfl rfl rfl ?_
          refine WpL.nil ?_
          refine Wp.condD rfl (fun h4 => ?_) (fun h4 => ?_)
          · have hix0 := Int.emod_nonneg ((k : Int) * chK K + j) (show (zs.length : Int) ≠ 0 by omega)
            have hix1 := Int.emod_lt_of_pos ((k : Int) * chK K + j) (show (0 : Int) < zs.length by omega)
            have hix : (((k : Int) * chK K + j) % zs.length).toNat < zs.length := by omega
            refine Wp.region ?_
            refine s_mv rfl rfl ?_
            refine s_mv rfl rfl ?_
            refine s_fa (o2 := 0) rfl rfl rfl ?_
            refine s_ld rfl rfl (by rfl) ?_
            first | refine s_mul rfl rfl rfl (w_i64 (by omega) (by omega)) ?_ | refine s_mulw rfl rfl rfl ?_
            refine s_mv rfl rfl ?_
            first | refine s_add rfl rfl rfl (w_i64 (by omega) (by omega)) ?_ | refine s_addw rfl rfl rfl ?_
            refine s_mv rfl rfl ?_
            refine s_lenl rfl rfl ?_
            refine s_rem rfl rfl rfl (by omega) (by omega) ?_
            refine s_ixa (((k : Int) * chK K + j) % zs.length).toNat rfl rfl rfl hA (by first | exact Take.ent' (by repeat' constructor) | (repeat (first | exact Ent.refl _ | refine Ent.drop ?_))) (by omega) hix (by rw [ints_len]; exact hix) ?_
            refine s_ldx rfl rfl hA (by first | exact Take.ent' (by repeat' constructor) | (repeat (first | exact Ent.refl _ | refine Ent.drop ?_))) (ints_at zs hix) ?_
            refine s_as rfl rfl ?_
            refine WpL.nil ?_
            refine Wp.region ?_
            refine s_mv rfl rfl ?_
            refine s_mv rfl rfl ?_
            refine s_bs1 rfl rfl rfl rfl ?_
            intro g3
            first
              | (refine s_app1 rfl rfl rfl (by repeat' constructor) (by rfl) (by rfl) (by rfl) (by rfl) (by omega) (by omega) ?_; intro a46 c46; rw [ints_snoc, show one.length + 1 = (one ++ [(zs[(((k : Int) * chK K + j) % zs.length).toNat]'hix)]).length from by simp])
              | (refine s_app1 rfl rfl rfl (by repeat' constructor) (by rfl) (by rfl) (by rfl) (by rfl) (by omega) (by omega) ?_; intro a46 c46; rw [ints_snoc, show one.length + 1 = (one ++ [0]).length from by simp])
            refine s_as rfl rfl ?_
            refine WpL.nil ?_
            refine Wp.region ?_
            refine s_mv rfl rfl ?_
            first | refine s_add rfl rfl rfl (w_i64 (by omega) (by omega)) ?_ | refine s_addw rfl rfl rfl ?_
            refine s_as rfl rfl ?_
            refine WpL.nil ?_
            refine loopD.next (⟨j + 1, one ++ [zs[(((k : Int) * chK K + j) % zs.length).toNat]'hix], a46, c46⟩ : PoX) ?_ ?_ (by repeat (first | exact Top.refl | refine Top.push rfl ?_ | refine Top.drop rfl ?_)) (by repeat (first | exact FrLe.nil | refine FrLe.cons rfl ?_)) ?_
            · refine ⟨by simp only; omega, by simp; omega, ?_⟩
              intro x hx
              rcases List.mem_append.1 hx with hx | hx
              · exact hor x hx
              · have := List.mem_singleton.1 hx
                subst this
                exact get_one hix hz
            · simp only; omega
            · first | exact Ent.refl _ | exact Ent.nil _ | exact Take.ent' (by repeat' constructor) | (repeat (first | exact Ent.refl _ | refine Ent.drop ?_))
          · refine Wp.skip ?_
            refine Wp.region ?_
            refine s_mv rfl rfl ?_
            refine s_mv rfl rfl ?_
            refine s_bs1 rfl rfl rfl rfl ?_
            intro g4
            first
              | (refine s_app1 rfl rfl rfl (by repeat' constructor) (by rfl) (by rfl) (by rfl) (by rfl) (by omega) (by omega) ?_; intro a46 c46; rw [ints_snoc, show one.length + 1 = (one ++ [(zs[(((k : Int) * chK K + j) % zs.length).toNat]'hix)]).length from by simp])
              | (refine s_app1 rfl rfl rfl (by repeat' constructor) (by rfl) (by rfl) (by rfl) (by rfl) (by omega) (by omega) ?_; intro a46 c46; rw [ints_snoc, show one.length + 1 = (one ++ [0]).length from by simp])
            refine s_as rfl rfl ?_
            refine WpL.nil ?_
            refine Wp.region ?_
            refine s_mv rfl rfl ?_
            first | refine s_add rfl rfl rfl (w_i64 (by omega) (by omega)) ?_ | refine s_addw rfl rfl rfl ?_
            refine s_as rfl rfl ?_
            refine WpL.nil ?_
            refine loopD.next (⟨j + 1, one ++ [0], a46, c46⟩ : PoX) ?_ ?_ (by repeat (first | exact Top.refl | refine Top.push rfl ?_ | refine Top.drop rfl ?_)) (by repeat (first | exact FrLe.nil | refine FrLe.cons rfl ?_)) ?_
            · refine ⟨by simp only; omega, by simp; omega, ?_⟩
              intro x hx
              rcases List.mem_append.1 hx with hx | hx
              · exact hor x hx
              · have := List.mem_singleton.1 hx
                subst this
                decide
            · simp only; omega
            · first | exact Ent.refl _ | exact Ent.nil _ | exact Take.ent' (by repeat' constructor) | (repeat (first | exact Ent.refl _ | refine Ent.drop ?_))
        · refine Wp.exit ?_
          refine Wp.region ?_
          refine s_mv rfl rfl ?_
          refine s_mv rfl rfl ?_
          refine s_lda (vs := [_, _]) rfl rfl rfl (by rfl) ?_
          refine s_callf rfl rfl (by repeat' constructor) (GoodPx_spec [_] a1 c1 one (chK K) M RdsL.own hor (by omega) hch (by omega) (by omega)) ?_
          rintro _ _ ⟨rfl, rfl⟩
          simp only [napp]
          refine s_bs1 rfl rfl rfl rfl ?_
          intro g5
          refine s_app1 rfl rfl rfl (by repeat' constructor) (by rfl) (by rfl) (by rfl) (by rfl) (by omega) (by omega) ?_
          intro a52 c52
          rw [pxs_snoc, show out.length + 1 = (out ++ [(packS (one.map fun x => aroundI x (M + 1))).1]).length from by simp]
          refine s_as rfl rfl ?_
          refine WpL.nil ?_
          refine Wp.region ?_
          refine s_mv rfl rfl ?_
          first | refine s_add rfl rfl rfl (w_i64 (by omega) (by omega)) ?_ | refine s_addw rfl rfl rfl ?_
          refine s_as rfl rfl ?_
          refine WpL.nil ?_
          refine loopD.next (⟨k + 1, out ++ [(packS (one.map fun x => aroundI x (M + 1))).1], a52, c52⟩ : PxX) ?_ ?_ (by repeat (first | exact Top.refl | refine Top.push rfl ?_ | refine Top.drop rfl ?_)) (by repeat (first | exact FrLe.nil | refine FrLe.cons rfl ?_)) ?_
          · refine ⟨by simp only; omega, by simp; omega, ?_⟩
            intro p hp
            rcases List.mem_append.1 hp with hp | hp
            · exact hcan p hp
            · have := List.mem_singleton.1 hp
              subst this
              exact px_good hch (by omega) (by omega) (by omega)
          · simp only; omega
          · first | exact Ent.refl _ | exact Ent.nil _ | exact Take.ent' (by repeat' constructor) | (repeat (first | exact Ent.refl _ | refine Ent.drop ?_))
    · refine Wp.exit ?_
      refine Wp.seq ?_
      refine Wp.region ?_
      refine s_mv rfl rfl ?_
      refine s_as rfl rfl ?_
      refine WpL.nil ?_
      refine Wp.ret ?_
      apply RetQ.mk
      · exact (Res.one rfl rfl)
      · exact ⟨out, a, c, rfl, by omega, hcan, rfl⟩
      · first | exact Ent.refl _ | exact Ent.nil _ | exact Take.ent' (by repeat' constructor) | (repeat (first | exact Ent.refl _ | refine Ent.drop ?_))

theorem Pixels_spec (A0 : HP) (a0 : Option Addr) (c0 : Nat) (zs : List Int) (hz : ∀ x ∈ zs, -9223372036854775808 ≤ x ∧ x < 9223372036854775808) (hzl : zs.length ≤ 9223372036854775807) (hA : RdsL [A0] a0 (ints zs)) (K W H M : Int) (hP : PlainH K W H M) (hWH : W * H ≤ 300000) (hWH0 : 0 ≤ W * H) : Fn Try.prog 5 #[.slice a0 zs.length c0, .agg #[.int .i64 K, .int .i64 W, .int .i64 H, .int .i64 M]] [A0] (fun v l => ∃ out a c, v = .slice a out.length c ∧ (out.length : Int) = W * H ∧ (∀ p ∈ out, Can (chK K) M p ∧ 0 ≤ p ∧ p < 18446744073709551616) ∧ l = [own 46 1 a c out.length (pxs out), A0]) := PixelsM_spec A0 a0 c0 zs hz hzl hA K W H M hP.1 hWH hWH0

end Go.Proofs.Ytpoahaadnbdgcaa
