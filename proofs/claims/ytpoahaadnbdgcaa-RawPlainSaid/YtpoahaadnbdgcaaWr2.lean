/- Walks. -/
import Derived.Test.YtpoahaadnbdgcaaWri
namespace Go.Proofs.Ytpoahaadnbdgcaa
open Go.RowKit Go.Shelf


structure WoX where
  (ws : List ByteArray) (a : Option Addr) (c : Nat)
def wsOf (p : Int) : List ByteArray := (unpackS p).map fun x => strOfNums (digs x.toNat)
theorem wsOf_bytes (p : Int) : (wsOf p).map bsOf = (unpackS p).map fun x => digs x.toNat := by
  simp only [wsOf, List.map_map]
  exact List.map_congr_left fun x _ => digs_str _
theorem joinB_one {xs : List Int} (h : xs.length = 1) (h0 : 0 < xs.length) : joinB xs = digs (xs[0]).toNat := by
  match xs, h with
  | [x], _ => rfl
theorem pxs_sub (px : List Int) (L H : Nat) : ((pxs px).drop (L * 1)).take ((H - L) * 1) = pxs ((px.drop L).take (H - L)) := by simp [pxs, List.map_take, List.map_drop]
theorem sub_at {px : List Int} {L n j : Nat} (hj : j < ((px.drop L).take n).length) (h : L + j < px.length) : ((px.drop L).take n)[j] = px[L + j] := by simp

set_option maxHeartbeats 4000000 in
theorem Write_ok (A0 : HP) (a0 : Option Addr) (c0 : Nat) (px : List Int) (hA : RdsL [A0] a0 (pxs px)) (hr : ∀ p ∈ px, 0 ≤ p ∧ p < 18446744073709551616) (_hl : px.length ≤ 300000000) (hc : px.length ≤ c0) (K M : Int) (Wn Hn : Nat) (hP : PlainH K (Wn : Int) (Hn : Int) M) : Fn Try.prog 7 #[.slice a0 px.length c0, .agg #[.int .i64 K, .int .i64 (Wn : Int), .int .i64 (Hn : Int), .int .i64 M]] [A0] (fun v l => ∃ s e, v = .tuple #[.string s, .int .i64 e] ∧ ((WrP K (Wn : Int) (Hn : Int) M px ∧ e = 0 ∧ bsOf s = wrL K (Wn : Int) 0 px ∧ s.size ≤ px.length * 20) ∨ (¬ WrP K (Wn : Int) (Hn : Int) M px ∧ e = 1 ∧ s = ⟨#[]⟩)) ∧ l = [A0]) := by
  have hP2 := hP.1
  unfold MayH at hP2
  have hK4 := hP.2
  have hWH : Wn * Hn ≤ 4096 * 65536 := Nat.mul_le_mul (by omega) (by omega)
  have hch := chK_or K
  have hWHi : (Wn : Int) * (Hn : Int) = ((Wn * Hn : Nat) : Int) := by push_cast; rfl
  refine Fn.intro (vs := [.slice a0 px.length c0, .agg #[.int .i64 K, .int .i64 (Wn : Int), .int .i64 (Hn : Int), .int .i64 M]]) Try.func7 rfl Try.ntmps7 rfl ?_
  refine Wp.seq ?_
  refine Wp.region ?_
  refine s_box rfl rfl rfl ?_
  intro g1
  refine s_as rfl rfl ?_
  refine s_as rfl rfl ?_
  refine WpL.nil ?_
  refine Wp.seq ?_
  refine Wp.region ?_
  refine s_lda (vs := [_, _, _, _]) rfl rfl rfl (by rfl) ?_
  refine s_callf rfl rfl (by repeat' constructor) (Format_spec _ _ _ _ (by omega)) ?_
  rintro _ _ ⟨rfl, rfl⟩
  simp only [napp]
  rw [show (if K % 3 = 0 then (3 : Int) else 1) = chK K from rfl]
  refine s_al rfl ?_
  intro gF
  refine s_sta rfl rfl rfl (by rfl) rfl ?_
  refine WpL.nil ?_
  refine Wp.seq ?_
  refine Wp.region ?_
  refine s_mkf rfl (fun a hh => evs_map hh _ _ rfl) ?_
  refine s_as rfl rfl ?_
  refine WpL.nil ?_
  refine Wp.seq ?_
  refine Wp.seq ?_
  refine Wp.region ?_
  refine s_lda (vs := [_, _, _, _]) rfl rfl rfl (by rfl) ?_
  refine s_callf rfl rfl (by repeat' constructor) (New_spec _ _ _ _) ?_
  intro v0 m0 hN0
  rcases hN0 with ⟨hP', gR, rfl, rfl⟩ | ⟨hP', rfl, rfl⟩
  · simp only [napp]
    refine s_mv rfl rfl ?_
    refine s_ext rfl rfl rfl ?_
    refine s_ext rfl rfl rfl ?_
    refine s_as rfl rfl ?_
    refine s_as rfl rfl ?_
    refine WpL.nil ?_
    refine Wp.seq ?_
    refine Wp.region ?_
    refine s_mv rfl rfl ?_
    refine s_ne rfl rfl rfl ?_
    refine s_mv rfl rfl ?_
    refine WpL.knowF (dj := 30) rfl (by decide) ?_
    refine WpL.gon rfl rfl ?_
    refine s_mv rfl rfl ?_
    refine WpL.gon rfl rfl ?_
    refine s_lenl rfl rfl ?_
    refine WpL.gon rfl rfl ?_
    refine s_fa (o2 := 1) rfl rfl rfl ?_
    refine WpL.gon rfl rfl ?_
    refine s_ld rfl rfl (by rfl) ?_
    refine WpL.gon rfl rfl ?_
    refine s_fa (o2 := 2) rfl rfl rfl ?_
    refine WpL.gon rfl rfl ?_
    refine s_ld rfl rfl (by rfl) ?_
    refine WpL.gon rfl rfl ?_
    refine s_mul rfl rfl rfl (w_i64 (by omega) (by omega)) ?_
    rw [hWHi]
    refine WpL.gon rfl rfl ?_
    refine s_ne rfl rfl rfl ?_
    refine s_pickF rfl rfl rfl ?_
    refine s_mv rfl rfl ?_
    refine WpL.grd rfl rfl rfl (fun hg2 => ?_) (fun hg2 => ?_)
    · have hg2 := of_decide_eq_false hg2
      refine s_mv rfl rfl ?_
      refine WpL.gon rfl rfl ?_
      refine s_mv rfl rfl ?_
      refine WpL.gon rfl rfl ?_
      refine s_callf rfl rfl (by repeat' constructor) (ContainsOdd_spec A0 a0 c0 px hA hr (by omega) gF (chK K) M) ?_
      rintro _ _ ⟨rfl, rfl⟩
      simp only [napp]
      refine s_pickF rfl rfl rfl ?_
      refine WpL.nil ?_
      refine Wp.condD rfl (fun hc2 => ?_) (fun hc2 => ?_)
      · refine Wp.seq ?_
        refine Wp.region ?_
        refine s_as rfl rfl ?_
        refine s_as rfl rfl ?_
        refine WpL.nil ?_
        refine Wp.ret ?_
        apply RetQ.mk
        · exact (Res.two rfl rfl rfl)
        · exact ⟨_, _, rfl, .inr ⟨fun h => hc2 h.2.2, rfl, rfl⟩, rfl⟩
        · first | exact Ent.refl _ | exact Ent.nil _ | exact Take.ent' (by repeat' constructor) | (repeat (first | exact Ent.refl _ | refine Ent.drop ?_))
      · have hfit : ∀ p ∈ px, FitP p (chK K) M := Classical.not_not.1 hc2
        have hpl : px.length = Wn * Hn := by omega
        have hWP : WrP K (Wn : Int) (Hn : Int) M px := ⟨hP, by rw [hpl]; push_cast; rfl, hfit⟩
        have hun : ∀ p ∈ px, unpackS p ≠ [] := fun p hp e => by have h1 := (hfit p hp).2.1; rw [e] at h1; simp at h1; omega
        have hne : px ≠ [] := fun e => by have h1 := Nat.mul_pos (show 0 < Wn by omega) (show 0 < Hn by omega); rw [e] at hpl; simp at hpl; omega
        refine Wp.skip ?_
        refine Wp.seq ?_
        refine Wp.region ?_
        refine s_al rfl ?_
        intro gB
        refine WpL.nil ?_
        refine Wp.seq ?_
        refine Wp.seq ?_
        refine Wp.region ?_
        refine s_fa (o2 := 0) rfl rfl rfl ?_
        refine s_ld rfl rfl (by rfl) ?_
        refine s_eq rfl rfl rfl ?_
        refine WpL.nil ?_
        refine Wp.condD rfl (fun h1 => ?_) (fun h1 => ?_)
        · have hK1 : K = 1 := by omega
          have hch1 : chK K = 1 := by rw [hK1]; rfl
          refine Wp.seq ?_
          refine Wp.seq ?_
          refine Wp.region ?_
          refine s_fa (o2 := 2) rfl rfl rfl ?_
          refine s_ld rfl rfl (by rfl) ?_
          refine s_mv rfl rfl ?_
          refine WpL.nil ?_
          refine Wp.block ?_
          refine Wp.loopD (σ := WbX) (fun x => x.k ≤ Hn ∧ x.bs = wrL K (Wn : Int) 0 (px.take (x.k * Wn)) ∧ (x.p = none ∨ x.p = some ⟨gB, 0, none⟩)) [11, 12, 13, 14, 50, 51, 52, 53, 54, 55, 56, 57, 58, 59, 60, 61, 62, 63, 64, 65, 66, 67, 68, 69, 70, 71, 72, 73, 74, 75, 76, 77, 78, 79, 80, 81, 82, 83, 84, 85, 86, 87, 88, 89, 90, 91, 92, 93, 94] (fun x => [(50, .int .i64 (x.k : Int))]) (fun x => [blk gB [.pointer x.p, .slice x.a x.bs.length x.c] 64, own 5 1 x.a x.c x.bs.length (u8s x.bs), blk gF [.int .i64 (chK K), .int .i64 M] 43, blk g1 [.int .i64 K, .int .i64 (Wn : Int), .int .i64 (Hn : Int), .int .i64 M] 32, A0]) (fun x => Hn - x.k) ⟨0, [], none, none, 0⟩ ?_ (by repeat (first | exact FrLe.nil | refine FrLe.cons rfl ?_)) ?_ ?_
          · exact ⟨Nat.zero_le _, by simp only; rw [Nat.zero_mul, List.take_zero]; rfl, .inl rfl⟩
          · exact (Ent.own_nil (T := 5) (s := 1) (Ent.refl _)).trans (Take.ent' (by repeat' constructor))
          · rintro ⟨k, bs, p, a, c⟩ ⟨hk, hbs, hp⟩
            dsimp only at hk hbs hp ⊢
            refine Wp.seq ?_
            refine Wp.region ?_
            refine s_lt rfl rfl rfl ?_
            refine WpL.nil ?_
            refine Wp.seq ?_
            refine Wp.condD rfl (fun h3 => ?_) (fun h3 => ?_)
            · have hlt : k < Hn := by omega
              have hkW : (k + 1) * Wn = k * Wn + Wn := by rw [Nat.add_mul, Nat.one_mul]
              have hkW2 : (k + 1) * Wn ≤ Hn * Wn := Nat.mul_le_mul_right _ hlt
              rw [Nat.mul_comm Hn Wn] at hkW2
              have ei1 : (k : Int) * (Wn : Int) = ((k * Wn : Nat) : Int) := by push_cast; rfl
              have ei2 : ((k : Int) + 1) * (Wn : Int) = (((k + 1) * Wn : Nat) : Int) := by push_cast; rfl
              refine Wp.skip ?_
              refine Wp.seq ?_
              refine Wp.block ?_
              refine Wp.seq ?_
              refine Wp.region ?_
              refine s_mv rfl rfl ?_
              refine s_as rfl rfl ?_
              refine WpL.nil ?_
              refine Wp.seq ?_
              refine Wp.region ?_
              refine s_mv rfl rfl ?_
              refine s_mv rfl rfl ?_
              refine s_fa (o2 := 1) rfl rfl rfl ?_
              refine s_ld rfl rfl (by rfl) ?_
              refine s_mul rfl rfl rfl (w_i64 (by omega) (by omega)) ?_
              rw [ei1]
              refine s_mv rfl rfl ?_
              first | refine s_add rfl rfl rfl (w_i64 (by omega) (by omega)) ?_ | refine s_addw rfl rfl rfl ?_
              refine s_fa (o2 := 1) rfl rfl rfl ?_
              refine s_ld rfl rfl (by rfl) ?_
              refine s_mul rfl rfl rfl (w_i64 (by omega) (by omega)) ?_
              rw [ei2]
              refine s_mv rfl rfl ?_
              first | refine s_add rfl rfl rfl (w_i64 (by omega) (by omega)) ?_ | refine s_addw rfl rfl rfl ?_
              refine s_fa (o2 := 1) rfl rfl rfl ?_
              refine s_ld rfl rfl (by rfl) ?_
              refine s_mul rfl rfl rfl (w_i64 (by omega) (by omega)) ?_
              rw [ei2]
              refine s_sll_lhm (L := k * Wn) (H := (k + 1) * Wn) (M := (k + 1) * Wn) rfl rfl rfl rfl rfl rfl rfl rfl (by omega) (by omega) (by omega) ?_
              refine s_as rfl rfl ?_
              refine WpL.nil ?_
              refine Wp.seq ?_
              refine Wp.region ?_
              refine s_mv rfl rfl ?_
              refine s_lenl rfl rfl ?_
              refine s_mv rfl rfl ?_
              refine WpL.nil ?_
              refine Wp.block ?_
              have hRw := hA.sla (k * Wn) ((k + 1) * Wn) ((k + 1) * Wn) 1 (Nat.le_refl _)
              rw [pxs_sub] at hRw
              rw [show (k + 1) * Wn - k * Wn = Wn by omega] at hRw ⊢
              have hrl : ((px.drop (k * Wn)).take Wn).length = Wn := by rw [List.length_take, List.length_drop]; omega
              refine Wp.loopD (σ := WbX) (fun y => y.k ≤ Wn ∧ y.bs = wrL K (Wn : Int) 0 (px.take (k * Wn + y.k)) ∧ (y.p = none ∨ y.p = some ⟨gB, 0, none⟩)) [13, 14, 71, 72, 73, 74, 75, 76, 77, 78, 79, 80, 81, 82, 83, 84, 85, 86, 87, 88, 89, 90, 91, 92, 93] (fun y => [(71, .int .i64 (y.k : Int))]) (fun y => [blk gB [.pointer y.p, .slice y.a y.bs.length y.c] 64, own 5 1 y.a y.c y.bs.length (u8s y.bs), blk gF [.int .i64 (chK K), .int .i64 M] 43, blk g1 [.int .i64 K, .int .i64 (Wn : Int), .int .i64 (Hn : Int), .int .i64 M] 32, A0]) (fun y => Wn - y.k) ⟨0, bs, p, a, c⟩ ?_ (by repeat (first | exact FrLe.nil | refine FrLe.cons rfl ?_)) ?_ ?_
              · exact ⟨Nat.zero_le _, hbs, hp⟩
              · first | exact Ent.refl _ | exact Ent.nil _ | exact Take.ent' (by repeat' constructor) | (repeat (first | exact Ent.refl _ | refine Ent.drop ?_))
              · clear hbs hp
                rintro ⟨j, bs, p, a, c⟩ ⟨hj, hbs, hp⟩
                dsimp only at hj hbs hp ⊢
                refine Wp.seq ?_
                refine Wp.region ?_
                refine s_lt rfl rfl rfl ?_
                refine WpL.nil ?_
                refine Wp.seq ?_
                refine Wp.condD rfl (fun h5 => ?_) (fun h5 => ?_)
                · have hlt2 : k * Wn + j < px.length := by omega
                  have hlr : j < ((px.drop (k * Wn)).take Wn).length := by omega
                  have hpb := hr _ (List.getElem_mem hlt2)
                  have hft := hfit _ (List.getElem_mem hlt2)
                  have hul : (unpackS (px[k * Wn + j]'hlt2)).length = 1 := by have := hft.2.1; rw [hch1] at this; omega
                  have hu0 : 0 < (unpackS (px[k * Wn + j]'hlt2)).length := by omega
                  have hub := unpackS_bd (px[k * Wn + j]'hlt2) _ (List.getElem_mem hu0)
                  have hdl := digs_len5 hub.2
                  have hbl := wrL_len (K := K) (W := (Wn : Int)) (px.take (k * Wn + j)) 0
                  rw [← hbs, List.length_take] at hbl
                  have hmod : ((k * Wn + j : Nat) : Int) % (Wn : Int) = (j : Int) := by push_cast; exact mod_row (by omega) (by omega)
                  have hjb : joinB (unpackS (px[k * Wn + j]'hlt2)) = (digs ((unpackS (px[k * Wn + j]'hlt2))[0]'hu0).toNat) := joinB_one hul hu0
                  have hstep : ∀ b, b = (bs ++ joinB (unpackS (px[k * Wn + j]'hlt2))) ++ (if nlB K (Wn : Int) (k * Wn + j) = true then [10] else []) → b = wrL K (Wn : Int) 0 (px.take (k * Wn + (j + 1))) := fun b hb => by rw [hb, ← Nat.add_assoc, wr_take hlt2, hbs, List.append_assoc]
                  rw [hjb] at hstep
                  refine Wp.skip ?_
                  refine Wp.seq ?_
                  refine Wp.block ?_
                  refine Wp.seq ?_
                  refine Wp.region ?_
                  refine s_mv rfl rfl ?_
                  refine s_ixa j rfl rfl rfl hRw (by first | exact Take.ent' (by repeat' constructor) | (repeat (first | exact Ent.refl _ | refine Ent.drop ?_))) rfl (by omega) (by rw [pxs_len]; omega) ?_
                  refine s_ldx (v := (.int .u64 (px[k * Wn + j]'hlt2))) rfl rfl hRw (by first | exact Take.ent' (by repeat' constructor) | (repeat (first | exact Ent.refl _ | refine Ent.drop ?_))) ((pxs_at _ hlr).trans (by rw [sub_at hlr hlt2])) ?_
                  refine s_as rfl rfl ?_
                  refine s_as rfl rfl ?_
                  refine WpL.nil ?_
                  refine Wp.seq ?_
                  refine Wp.region ?_
                  refine s_mv rfl rfl ?_
                  refine s_callf rfl rfl (by repeat' constructor) (Unpack_spec _ hpb.1 hpb.2) ?_
                  rintro _ _ ⟨A1, a1, c1, rfl, rfl, hA1, hn1⟩
                  simp only [napp]
                  refine s_ixa 0 rfl rfl rfl hA1 (by first | exact Take.ent' (by repeat' constructor) | (repeat (first | exact Ent.refl _ | refine Ent.drop ?_))) rfl (by omega) (by rw [ints_len]; omega) ?_
                  refine s_ldx rfl rfl hA1 (by first | exact Take.ent' (by repeat' constructor) | (repeat (first | exact Ent.refl _ | refine Ent.drop ?_))) (ints_at _ hu0) ?_
                  refine s_callf rfl rfl (by repeat' constructor) (NDec_spec _ hub.1 (by omega)) ?_
                  rintro _ _ ⟨rfl, rfl⟩
                  simp only [napp]
                  refine s_callf rfl rfl (by repeat' constructor) (BWriteString_spec gB p a c bs hp _ (by rw [size_nums]; omega)) ?_
                  rintro _ _ ⟨ab, cb, rfl⟩
                  simp only [napp]
                  rw [digs_str]
                  refine WpL.nil ?_
                  refine Wp.seq ?_
                  refine Wp.region ?_
                  refine s_mv rfl rfl ?_
                  refine s_rem rfl rfl rfl (by omega) (by omega) ?_
                  refine s_eq rfl rfl rfl ?_
                  refine s_mv rfl rfl ?_
                  refine WpL.grd rfl rfl rfl (fun hg3 => ?_) (fun hg3 => ?_)
                  · have hg3 := of_decide_eq_false hg3
                    refine s_mv rfl rfl ?_
                    refine WpL.gon rfl rfl ?_
                    refine s_fa (o2 := 1) rfl rfl rfl ?_
                    refine WpL.gon rfl rfl ?_
                    refine s_ld rfl rfl (by rfl) ?_
                    refine WpL.gon rfl rfl ?_
                    first | refine s_sub rfl rfl rfl (w_i64 (by omega) (by omega)) ?_ | refine s_subw rfl rfl rfl ?_
                    refine WpL.gon rfl rfl ?_
                    refine s_eq rfl rfl rfl ?_
                    refine s_pickF rfl rfl rfl ?_
                    refine WpL.nil ?_
                    refine Wp.condD rfl (fun h6 => ?_) (fun h6 => ?_)
                    · refine Wp.region ?_
                      refine s_callf rfl rfl (by repeat' constructor) (BWriteByte_spec gB _ ab cb _ (.inr rfl) 10 (by rw [List.length_append]; omega)) ?_
                      rintro _ _ ⟨ab2, cb2, rfl⟩
                      simp only [napp]
                      refine WpL.nil ?_
                      refine Wp.region ?_
                      first | refine s_add rfl rfl rfl (w_i64 (by omega) (by omega)) ?_ | refine s_addw rfl rfl rfl ?_
                      refine s_mv rfl rfl ?_
                      refine WpL.nil ?_
                      refine loopD.next (⟨j + 1, bs ++ (digs ((unpackS (px[k * Wn + j]'hlt2))[0]'hu0).toNat) ++ [10], some ⟨gB, 0, none⟩, ab2, cb2⟩ : WbX) ?_ ?_ (by repeat (first | exact Top.refl | refine Top.push rfl ?_ | refine Top.drop rfl ?_)) (by repeat (first | exact FrLe.nil | refine FrLe.cons rfl ?_)) ?_
                      · exact ⟨by simp only; omega, hstep _ (nl_t (.inr (.inl (by rw [hmod]; omega))) rfl), .inr rfl⟩
                      · simp only; omega
                      · first | exact Ent.refl _ | exact Ent.nil _ | exact Take.ent' (by repeat' constructor) | (repeat (first | exact Ent.refl _ | refine Ent.drop ?_))
                    · refine Wp.skip ?_
                      refine Wp.region ?_
                      first | refine s_add rfl rfl rfl (w_i64 (by omega) (by omega)) ?_ | refine s_addw rfl rfl rfl ?_
                      refine s_mv rfl rfl ?_
                      refine WpL.nil ?_
                      refine loopD.next (⟨j + 1, bs ++ (digs ((unpackS (px[k * Wn + j]'hlt2))[0]'hu0).toNat), some ⟨gB, 0, none⟩, ab, cb⟩ : WbX) ?_ ?_ (by repeat (first | exact Top.refl | refine Top.push rfl ?_ | refine Top.drop rfl ?_)) (by repeat (first | exact FrLe.nil | refine FrLe.cons rfl ?_)) ?_
                      · exact ⟨by simp only; omega, hstep _ (nl_f (by omega) (by rw [hmod]; omega) (by rw [hmod]; omega) rfl), .inr rfl⟩
                      · simp only; omega
                      · first | exact Ent.refl _ | exact Ent.nil _ | exact Take.ent' (by repeat' constructor) | (repeat (first | exact Ent.refl _ | refine Ent.drop ?_))
                  · have hg3 := of_decide_eq_true hg3
                    refine WpL.goff rfl rfl rfl (by decide) ?_
                    refine WpL.goff rfl rfl rfl (by decide) ?_
                    refine WpL.goff rfl rfl rfl (by decide) ?_
                    refine WpL.goff rfl rfl rfl (by decide) ?_
                    refine s_pickT rfl rfl rfl ?_
                    refine WpL.nil ?_
                    refine Wp.condT rfl ?_
                    refine Wp.region ?_
                    refine s_callf rfl rfl (by repeat' constructor) (BWriteByte_spec gB _ ab cb _ (.inr rfl) 10 (by rw [List.length_append]; omega)) ?_
                    rintro _ _ ⟨ab2, cb2, rfl⟩
                    simp only [napp]
                    refine WpL.nil ?_
                    refine Wp.region ?_
                    first | refine s_add rfl rfl rfl (w_i64 (by omega) (by omega)) ?_ | refine s_addw rfl rfl rfl ?_
                    refine s_mv rfl rfl ?_
                    refine WpL.nil ?_
                    refine loopD.next (⟨j + 1, bs ++ (digs ((unpackS (px[k * Wn + j]'hlt2))[0]'hu0).toNat) ++ [10], some ⟨gB, 0, none⟩, ab2, cb2⟩ : WbX) ?_ ?_ (by repeat (first | exact Top.refl | refine Top.push rfl ?_ | refine Top.drop rfl ?_)) (by repeat (first | exact FrLe.nil | refine FrLe.cons rfl ?_)) ?_
                    · exact ⟨by simp only; omega, hstep _ (nl_t (.inr (.inr (by rw [hmod]; omega))) rfl), .inr rfl⟩
                    · simp only; omega
                    · first | exact Ent.refl _ | exact Ent.nil _ | exact Take.ent' (by repeat' constructor) | (repeat (first | exact Ent.refl _ | refine Ent.drop ?_))
                · have hjw : j = Wn := by omega
                  refine Wp.exit ?_
                  refine Wp.region ?_
                  first | refine s_add rfl rfl rfl (w_i64 (by omega) (by omega)) ?_ | refine s_addw rfl rfl rfl ?_
                  refine s_mv rfl rfl ?_
                  refine WpL.nil ?_
                  refine loopD.next (⟨k + 1, bs, p, a, c⟩ : WbX) ?_ ?_ (by repeat (first | exact Top.refl | refine Top.push rfl ?_ | refine Top.drop rfl ?_)) (by repeat (first | exact FrLe.nil | refine FrLe.cons rfl ?_)) ?_
                  · exact ⟨by simp only; omega, by simp only; rw [hbs, hjw, Nat.add_mul, Nat.one_mul], hp⟩
                  · simp only; omega
                  · first | exact Ent.refl _ | exact Ent.nil _ | exact Take.ent' (by repeat' constructor) | (repeat (first | exact Ent.refl _ | refine Ent.drop ?_))
            · have hke : k = Hn := by omega
              rw [hke, Nat.mul_comm Hn Wn, List.take_of_length_le (by omega)] at hbs
              have hbl := wrL_len (K := K) (W := (Wn : Int)) px 0
              have hbp := wrL_pos (K := K) (W := (Wn : Int)) hne hun 0
              have hbb := wrL_byte (K := K) (W := (Wn : Int)) px 0
              subst hbs
              refine Wp.exit ?_
              refine Wp.seq ?_
              refine Wp.region ?_
              refine s_callf rfl rfl (by repeat' constructor) (BString_spec gB c p a _ hbp (by omega) hbb) ?_
              rintro _ _ ⟨rfl, rfl⟩
              simp only [napp]
              refine s_as rfl rfl ?_
              refine s_as rfl rfl ?_
              refine WpL.nil ?_
              refine Wp.ret ?_
              apply RetQ.mk
              · exact (Res.two rfl rfl rfl)
              · exact ⟨_, _, rfl, .inl ⟨hWP, rfl, bsOf_nums hbb, by rw [size_nums]; omega⟩, rfl⟩
              · first | exact Ent.refl _ | exact Ent.nil _ | exact Take.ent' (by repeat' constructor) | (repeat (first | exact Ent.refl _ | refine Ent.drop ?_))
        · refine Wp.skip ?_
          refine Wp.seq ?_
          refine Wp.seq ?_
          refine Wp.region ?_
          refine s_mv rfl rfl ?_
          refine s_lenl rfl rfl ?_
          refine s_mv rfl rfl ?_
          refine WpL.nil ?_
          refine Wp.block ?_
          refine Wp.loopD (σ := WbX) (fun x => x.k ≤ px.length ∧ x.bs = wrL K (Wn : Int) 0 (px.take x.k) ∧ (x.p = none ∨ x.p = some ⟨gB, 0, none⟩)) [16, 17, 19, 98, 99, 100, 101, 102, 103, 104, 105, 106, 107, 108, 109, 110, 111, 112, 113, 114, 115, 116, 117, 118, 119] (fun x => [(98, .int .i64 (x.k : Int))]) (fun x => [blk gB [.pointer x.p, .slice x.a x.bs.length x.c] 64, own 5 1 x.a x.c x.bs.length (u8s x.bs), blk gF [.int .i64 (chK K), .int .i64 M] 43, blk g1 [.int .i64 K, .int .i64 (Wn : Int), .int .i64 (Hn : Int), .int .i64 M] 32, A0]) (fun x => px.length - x.k) ⟨0, [], none, none, 0⟩ ?_ (by repeat (first | exact FrLe.nil | refine FrLe.cons rfl ?_)) ?_ ?_
          · exact ⟨Nat.zero_le _, rfl, .inl rfl⟩
          · exact (Ent.own_nil (T := 5) (s := 1) (Ent.refl _)).trans (Take.ent' (by repeat' constructor))
          · rintro ⟨k, bs, p, a, c⟩ ⟨hk, hbs, hp⟩
            dsimp only at hk hbs hp ⊢
            refine Wp.seq ?_
            refine Wp.region ?_
            refine s_lt rfl rfl rfl ?_
            refine WpL.nil ?_
            refine Wp.seq ?_
            refine Wp.condD rfl (fun h8 => ?_) (fun h8 => ?_)
            · have hlt : k < px.length := by omega
              have hpb := hr _ (List.getElem_mem hlt)
              have hft := hfit _ (List.getElem_mem hlt)
              have hul : ((unpackS px[k]).length : Int) = chK K := hft.2.1
              have hjl := joinB_len (unpackS px[k]) fun x hx => (unpackS_bd px[k] x hx).2
              have hbl := wrL_len (K := K) (W := (Wn : Int)) (px.take (k)) 0
              rw [← hbs, List.length_take] at hbl
              refine Wp.skip ?_
              refine Wp.seq ?_
              refine Wp.block ?_
              refine Wp.seq ?_
              refine Wp.region ?_
              refine s_ixa k rfl rfl rfl hA (by first | exact Take.ent' (by repeat' constructor) | (repeat (first | exact Ent.refl _ | refine Ent.drop ?_))) rfl (by omega) (by rw [pxs_len]; omega) ?_
              refine s_ldx rfl rfl hA (by first | exact Take.ent' (by repeat' constructor) | (repeat (first | exact Ent.refl _ | refine Ent.drop ?_))) (pxs_at px hlt) ?_
              refine s_as rfl rfl ?_
              refine WpL.nil ?_
              refine Wp.seq ?_
              refine Wp.region ?_
              refine s_as rfl rfl ?_
              refine WpL.nil ?_
              refine Wp.seq ?_
              refine Wp.seq ?_
              refine Wp.region ?_
              refine s_mv rfl rfl ?_
              refine s_callf rfl rfl (by repeat' constructor) (Unpack_spec _ hpb.1 hpb.2) ?_
              rintro _ _ ⟨A1, a1, c1, rfl, rfl, hA1, hn1⟩
              simp only [napp]
              refine s_lenl rfl rfl ?_
              refine s_mv rfl rfl ?_
              refine WpL.nil ?_
              refine Wp.block ?_
              refine Wp.loopD (σ := WoX) (fun z => z.ws.length ≤ (unpackS px[k]).length ∧ z.ws = (wsOf px[k]).take z.ws.length) [17, 19, 105, 106, 107, 108, 109, 110, 111, 112, 113, 114] (fun z => [(105, .int .i64 (z.ws.length : Int)), (17, .slice z.a z.ws.length z.c)]) (fun z => own 9 1 z.a z.c z.ws.length (strs z.ws) :: A1 :: [blk gB [.pointer p, .slice a bs.length c] 64, own 5 1 a c bs.length (u8s bs), blk gF [.int .i64 (chK K), .int .i64 M] 43, blk g1 [.int .i64 K, .int .i64 (Wn : Int), .int .i64 (Hn : Int), .int .i64 M] 32, A0]) (fun z => (unpackS px[k]).length - z.ws.length) ⟨[], none, 0⟩ ?_ (by repeat (first | exact FrLe.nil | refine FrLe.cons rfl ?_)) ?_ ?_
              · exact ⟨Nat.zero_le _, rfl⟩
              · exact Ent.own_nil (T := 9) (s := 1) (Ent.refl _)
              · rintro ⟨ws, a9, c9⟩ ⟨hw1, hw2⟩
                dsimp only at hw1 hw2 ⊢
                refine Wp.seq ?_
                refine Wp.region ?_
                refine s_lt rfl rfl rfl ?_
                refine WpL.nil ?_
                refine Wp.seq ?_
                refine Wp.condD rfl (fun h10 => ?_) (fun h10 => ?_)
                · have hlw : ws.length < (unpackS px[k]).length := by omega
                  have hub := unpackS_bd px[k] _ (List.getElem_mem hlw)
                  refine Wp.skip ?_
                  refine Wp.seq ?_
                  refine Wp.block ?_
                  refine Wp.seq ?_
                  refine Wp.region ?_
                  refine s_ixa ws.length rfl rfl rfl hA1 (by first | exact Take.ent' (by repeat' constructor) | (repeat (first | exact Ent.refl _ | refine Ent.drop ?_))) rfl (by omega) (by rw [ints_len]; omega) ?_
                  refine s_ldx rfl rfl hA1 (by first | exact Take.ent' (by repeat' constructor) | (repeat (first | exact Ent.refl _ | refine Ent.drop ?_))) (ints_at _ hlw) ?_
                  refine s_as rfl rfl ?_
                  refine WpL.nil ?_
                  refine Wp.region ?_
                  refine s_mv rfl rfl ?_
                  refine s_mv rfl rfl ?_
                  refine s_callf rfl rfl (by repeat' constructor) (NDec_spec _ hub.1 (by omega)) ?_
                  rintro _ _ ⟨rfl, rfl⟩
                  simp only [napp]
                  refine s_bs1 rfl rfl rfl rfl ?_
                  intro g4
                  refine s_app1 rfl rfl rfl (by repeat' constructor) (by rfl) (by rfl) (by rfl) (by rfl) (by have := unpackS_len px[k]; omega) (by have := unpackS_len px[k]; omega) ?_
                  intro a113 c113
                  rw [strs_snoc, show ws.length + 1 = (ws ++ [strOfNums (digs ((unpackS px[k])[ws.length]'hlw).toNat)]).length from by simp]
                  refine s_as rfl rfl ?_
                  refine WpL.nil ?_
                  refine Wp.region ?_
                  first | refine s_add rfl rfl rfl (w_i64 (by omega) (by omega)) ?_ | refine s_addw rfl rfl rfl ?_
                  refine s_mv rfl rfl ?_
                  refine WpL.nil ?_
                  refine loopD.next (⟨ws ++ [strOfNums (digs ((unpackS px[k])[ws.length]'hlw).toNat)], a113, c113⟩ : WoX) ?_ ?_ (by repeat (first | exact Top.refl | refine Top.push rfl ?_ | refine Top.drop rfl ?_)) (FrLe.cons (congrArg (fun x => some (Value.int .i64 x)) (by simp)) (FrLe.cons rfl FrLe.nil)) ?_
                  · refine ⟨by simp; omega, ?_⟩
                    simp only [List.length_append, List.length_cons, List.length_nil, Nat.zero_add]
                    have hlw2 : ws.length < (wsOf px[k]).length := by simp [wsOf]; omega
                    rw [List.take_succ_eq_append_getElem hlw2, ← hw2]
                    simp [wsOf]
                  · simp only [List.length_append, List.length_cons, List.length_nil]; omega
                  · first | exact Ent.refl _ | exact Ent.nil _ | exact Take.ent' (by repeat' constructor) | (repeat (first | exact Ent.refl _ | refine Ent.drop ?_))
                · have hwl : ws.length = (wsOf px[k]).length := by simp [wsOf]; omega
                  have hwe : ws = wsOf px[k] := by rw [hw2, hwl, List.take_length]
                  have hint : [32].intercalate (ws.map bsOf) = joinB (unpackS px[k]) := by rw [hwe, wsOf_bytes, joinB_inter]
                  refine Wp.exit ?_
                  refine Wp.region ?_
                  refine s_mv rfl rfl ?_
                  refine s_callf rfl rfl (by repeat' constructor) (Join_spec _ _ ws ⟨#[32]⟩ (by simp [wsOf] at hwl; omega) (by have := unpackS_len px[k]; omega) (by rw [show bsOf ⟨#[32]⟩ = [32] from rfl, hint]; have := unpackS_len px[k]; omega)) ?_
                  rintro _ _ ⟨sj, rfl, hsj, rfl⟩
                  simp only [napp]
                  have hsj2 : bsOf sj = joinB (unpackS px[k]) := hsj.trans hint
                  have hsz : sj.size ≤ 18 := by rw [← bsOf_len, hsj2]; have := unpackS_len px[k]; omega
                  have hnl : (⟨#[10]⟩ : ByteArray).size = 1 := rfl
                  refine s_cat rfl rfl rfl (by omega) ?_
                  refine s_callf rfl rfl (by repeat' constructor) (BWriteString_spec gB p a c bs hp _ (by rw [ByteArray.size_append]; omega)) ?_
                  rintro _ _ ⟨ab, cb, rfl⟩
                  simp only [napp]
                  refine WpL.nil ?_
                  refine Wp.region ?_
                  first | refine s_add rfl rfl rfl (w_i64 (by omega) (by omega)) ?_ | refine s_addw rfl rfl rfl ?_
                  refine s_mv rfl rfl ?_
                  refine WpL.nil ?_
                  refine loopD.next (⟨k + 1, bs ++ bsOf (sj ++ ⟨#[10]⟩), some ⟨gB, 0, none⟩, ab, cb⟩ : WbX) ?_ ?_ (by repeat (first | exact Top.refl | refine Top.push rfl ?_ | refine Top.drop rfl ?_)) (by repeat (first | exact FrLe.nil | refine FrLe.cons rfl ?_)) ?_
                  · refine ⟨by simp only; omega, ?_, .inr rfl⟩
                    simp only
                    rw [wr_take hlt, hbs, bsOf_app, hsj2, show nlB K (Wn : Int) k = true from decide_eq_true (.inl (by omega)), if_pos rfl, show bsOf ⟨#[10]⟩ = [10] from rfl]
                  · simp only; omega
                  · first | exact Ent.refl _ | exact Ent.nil _ | exact Take.ent' (by repeat' constructor) | (repeat (first | exact Ent.refl _ | refine Ent.drop ?_))
            · have hke : k = px.length := by omega
              rw [hke, List.take_length] at hbs
              have hbl := wrL_len (K := K) (W := (Wn : Int)) px 0
              have hbp := wrL_pos (K := K) (W := (Wn : Int)) hne hun 0
              have hbb := wrL_byte (K := K) (W := (Wn : Int)) px 0
              subst hbs
              refine Wp.exit ?_
              refine Wp.seq ?_
              refine Wp.region ?_
              refine s_callf rfl rfl (by repeat' constructor) (BString_spec gB c p a _ hbp (by omega) hbb) ?_
              rintro _ _ ⟨rfl, rfl⟩
              simp only [napp]
              refine s_as rfl rfl ?_
              refine s_as rfl rfl ?_
              refine WpL.nil ?_
              refine Wp.ret ?_
              apply RetQ.mk
              · exact (Res.two rfl rfl rfl)
              · exact ⟨_, _, rfl, .inl ⟨hWP, rfl, bsOf_nums hbb, by rw [size_nums]; omega⟩, rfl⟩
              · first | exact Ent.refl _ | exact Ent.nil _ | exact Take.ent' (by repeat' constructor) | (repeat (first | exact Ent.refl _ | refine Ent.drop ?_))
    · have hg2 := of_decide_eq_true hg2
      refine WpL.goff rfl rfl rfl (by decide) ?_
      refine WpL.goff rfl rfl rfl (by decide) ?_
      refine s_pickT rfl rfl rfl ?_
      refine WpL.nil ?_
      refine Wp.condT rfl ?_
      refine Wp.seq ?_
      refine Wp.region ?_
      refine s_as rfl rfl ?_
      refine s_as rfl rfl ?_
      refine WpL.nil ?_
      refine Wp.ret ?_
      apply RetQ.mk
      · exact (Res.two rfl rfl rfl)
      · exact ⟨_, _, rfl, .inr ⟨fun h => hg2 (by have := h.2.1; omega), rfl, rfl⟩, rfl⟩
      · first | exact Ent.refl _ | exact Ent.nil _ | exact Take.ent' (by repeat' constructor) | (repeat (first | exact Ent.refl _ | refine Ent.drop ?_))
  · simp only [napp]
    exfalso
    exact hP' hP

end Go.Proofs.Ytpoahaadnbdgcaa
