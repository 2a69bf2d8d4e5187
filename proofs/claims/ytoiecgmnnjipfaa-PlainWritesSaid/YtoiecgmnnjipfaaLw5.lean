/- Walks. -/
import Derived.Test.YtoiecgmnnjipfaaLw4
namespace Go.Proofs.Ytoiecgmnnjipfaa
open Go.RowKit Go.Shelf

theorem take_all {xs : List Int} {k : Nat} {mx : Int} (h : ∀ x ∈ xs.take k, x ≤ mx) (hlt : k < xs.length) (hx : xs[k] ≤ mx) : ∀ x ∈ xs.take (k + 1), x ≤ mx := by
  intro x hxm
  rw [take_snoc' xs hlt] at hxm
  rcases List.mem_append.1 hxm with hxm | hxm
  · exact h x hxm
  · have := List.mem_singleton.1 hxm; subst this; exact hx

theorem rFits_spec (p ch mx : Int) (h0 : 0 ≤ p) (h1 : p < 18446744073709551616) : Fn Try.prog 42 #[.int .u64 p, .agg #[.int .i64 ch, .int .i64 mx]] [] (fun v l => v = .bool (decide (FitP p ch mx)) ∧ l = []) := by
  have hul := unpackS_len p
  refine Fn.intro (vs := [.int .u64 p, .agg #[.int .i64 ch, .int .i64 mx]]) Try.func42 rfl Try.ntmps42 rfl ?_
  refine Wp.seq ?_
  refine Wp.region ?_
  refine s_box rfl rfl rfl ?_
  intro g1
  refine s_as rfl rfl ?_
  refine WpL.nil ?_
  refine Wp.seq ?_
  refine Wp.region ?_
  refine s_mv rfl rfl ?_
  refine s_callf rfl rfl (by repeat' constructor) (rUnpack_spec _ (by omega) (by omega)) ?_
  rintro _ _ ⟨A1, a1, c1, rfl, rfl, hA1, hn1⟩
  simp only [napp]
  refine s_as rfl rfl ?_
  refine WpL.nil ?_
  refine Wp.seq ?_
  refine Wp.seq ?_
  refine Wp.region ?_
  refine s_as rfl rfl ?_
  refine WpL.nil ?_
  refine Wp.block ?_
  refine Wp.loopD (σ := Nat) (fun k => k ≤ (unpackS p).length ∧ ∀ x ∈ (unpackS p).take k, x ≤ mx) [4, 6, 10, 11, 12, 13, 14, 15, 16, 17, 18, 19, 20, 21, 22] (fun k => [(6, .int .i64 (k : Int))]) (fun k => [A1, blk g1 [.int .i64 ch, .int .i64 mx] 75]) (fun k => (unpackS p).length - k) 0 ?_ (by repeat (first | exact FrLe.nil | refine FrLe.cons rfl ?_)) ?_ ?_
  · exact ⟨Nat.zero_le _, by simp⟩
  · first | exact Ent.refl _ | exact Ent.nil _ | exact Take.ent' (by repeat' constructor) | (repeat (first | exact Ent.refl _ | refine Ent.drop ?_))
  · rintro k ⟨hk, hall⟩
    refine Wp.seq ?_
    refine Wp.seq ?_
    refine Wp.region ?_
    refine s_mv rfl rfl ?_
    refine s_mv rfl rfl ?_
    refine s_lenl rfl rfl ?_
    refine s_lt rfl rfl rfl ?_
    refine WpL.nil ?_
    refine Wp.condD rfl (fun h1 => ?_) (fun h1 => ?_)
    · have hlt : k < (unpackS p).length := by omega
      refine Wp.skip ?_
      refine Wp.seq ?_
      refine Wp.block ?_
      refine Wp.seq ?_
      apply Wp.draw mixed [⟨16, _, []⟩, ⟨17, _, []⟩, ⟨18, _, [0, 1]⟩, ⟨19, _, [2]⟩, ⟨20, _, []⟩, ⟨21, _, [4]⟩, ⟨22, _, [3, 5]⟩] rfl
      · refine AllObs.mk ?_ ?_
        · refine s_mv rfl rfl ?_
          exact obN rfl
        refine AllObs.mk ?_ ?_
        · refine s_mv rfl rfl ?_
          exact obN rfl
        refine AllObs.mk ?_ ?_
        · refine s_ixa k rfl rfl rfl hA1 (by first | exact Take.ent' (by repeat' constructor) | (repeat (first | exact Ent.refl _ | refine Ent.drop ?_))) rfl (by omega) (by rw [ints_len]; omega) ?_
          exact obN rfl
        refine AllObs.mk ?_ ?_
        · refine s_ldx rfl rfl hA1 (by first | exact Take.ent' (by repeat' constructor) | (repeat (first | exact Ent.refl _ | refine Ent.drop ?_))) (ints_at (unpackS p) hlt) ?_
          exact obN rfl
        refine AllObs.mk ?_ ?_
        · refine s_fa (o2 := 1) rfl rfl rfl ?_
          exact obN rfl
        refine AllObs.mk ?_ ?_
        · refine s_ld rfl rfl (by rfl) ?_
          exact obN rfl
        refine AllObs.mk ?_ ?_
        · refine s_gt rfl rfl rfl ?_
          exact obN rfl
        exact AllObs.nil
      · refine Wp.condD rfl (fun h2 => ?_) (fun h2 => ?_)
        · refine Wp.seq ?_
          refine Wp.region ?_
          refine s_as rfl rfl ?_
          refine WpL.nil ?_
          refine Wp.ret ?_
          skip
          apply RetQ.mk
          · exact (Res.one rfl rfl)
          · exact ⟨congrArg Value.bool (df (fun hf => by have := hf.2.2 _ (List.getElem_mem hlt); omega)), rfl⟩
          · first | exact Ent.refl _ | exact Ent.nil _ | exact Take.ent' (by repeat' constructor) | (repeat (first | exact Ent.refl _ | refine Ent.drop ?_))
        · refine Wp.skip ?_
          refine Wp.region ?_
          refine s_mv rfl rfl ?_
          first | refine s_add rfl rfl rfl (w_i64 (by omega) (by omega)) ?_ | refine s_addw rfl rfl rfl ?_
          refine s_as rfl rfl ?_
          refine WpL.nil ?_
          refine loopD.next (k + 1) ?_ ?_ (by repeat (first | exact Top.refl | refine Top.push rfl ?_ | refine Top.drop rfl ?_)) (by repeat (first | exact FrLe.nil | refine FrLe.cons rfl ?_)) ?_
          · exact ⟨by omega, take_all hall hlt (by omega)⟩
          · omega
          · first | exact Ent.refl _ | exact Ent.nil _ | exact Take.ent' (by repeat' constructor) | (repeat (first | exact Ent.refl _ | refine Ent.drop ?_))
    · refine Wp.exit ?_
      refine Wp.seq ?_
      refine Wp.region ?_
      refine s_lda (vs := [_, _]) rfl rfl rfl (by rfl) ?_
      refine s_callf rfl rfl (by repeat' constructor) (rFormat1_spec _ _) ?_
      rintro _ _ ⟨rfl, rfl⟩
      simp only [napp]
      refine s_as rfl rfl ?_
      refine WpL.nil ?_
      refine Wp.seq ?_
      refine Wp.region ?_
      refine s_mv rfl rfl ?_
      refine s_mv rfl rfl ?_
      refine WpL.grd rfl rfl rfl (fun hg1 => ?_) (fun hg1 => ?_)
      · have hg1 := of_decide_eq_true hg1
        refine s_mv rfl rfl ?_
        refine WpL.gon rfl rfl ?_
        refine s_lenl rfl rfl ?_
        refine WpL.gon rfl rfl ?_
        refine s_fa (o2 := 0) rfl rfl rfl ?_
        refine WpL.gon rfl rfl ?_
        refine s_ld rfl rfl (by rfl) ?_
        refine WpL.gon rfl rfl ?_
        refine s_eq rfl rfl rfl ?_
        refine s_pickT rfl rfl rfl ?_
        refine s_as rfl rfl ?_
        refine WpL.nil ?_
        refine Wp.ret ?_
        skip
        apply RetQ.mk
        · exact (Res.one rfl rfl)
        · refine ⟨congrArg Value.bool ?_, rfl⟩
          have hke : k = (unpackS p).length := by omega
          rw [hke, List.take_length] at hall
          first | exact dd ⟨fun h => ⟨by assumption, h, hall⟩, fun h => h.2.1⟩ | exact df (fun hf => absurd hf.1 (by assumption)) | exact dt ⟨by assumption, by assumption, hall⟩
        · first | exact Ent.refl _ | exact Ent.nil _ | exact Take.ent' (by repeat' constructor) | (repeat (first | exact Ent.refl _ | refine Ent.drop ?_))
      · have hg1 := of_decide_eq_false hg1
        refine WpL.goff rfl rfl rfl (by decide) ?_
        refine WpL.goff rfl rfl rfl (by decide) ?_
        refine WpL.goff rfl rfl rfl (by decide) ?_
        refine WpL.goff rfl rfl rfl (by decide) ?_
        refine s_pickF rfl rfl rfl ?_
        refine s_as rfl rfl ?_
        refine WpL.nil ?_
        refine Wp.ret ?_
        skip
        apply RetQ.mk
        · exact (Res.one rfl rfl)
        · refine ⟨congrArg Value.bool ?_, rfl⟩
          have hke : k = (unpackS p).length := by omega
          rw [hke, List.take_length] at hall
          first | exact dd ⟨fun h => ⟨by assumption, h, hall⟩, fun h => h.2.1⟩ | exact df (fun hf => absurd hf.1 (by assumption)) | exact dt ⟨by assumption, by assumption, hall⟩
        · first | exact Ent.refl _ | exact Ent.nil _ | exact Take.ent' (by repeat' constructor) | (repeat (first | exact Ent.refl _ | refine Ent.drop ?_))


theorem chK_or (K : Int) : chK K = 1 ∨ chK K = 3 := by unfold chK; split <;> simp
def WrP (K W H M : Int) (px : List Int) : Prop := PlainH K W H M ∧ (px.length : Int) = W * H ∧ ∀ p ∈ px, FitP p (chK K) M
/-- What stands behind j samples. -/
def pj (xs : List Int) (j : Nat) : List Int := if j = xs.length then joinB xs else (xs.take j).flatMap fun x => digs x.toNat ++ [32]
theorem pj_zero {xs : List Int} : pj xs 0 = [] := by
  unfold pj
  split
  · rename_i h; rw [List.eq_nil_of_length_eq_zero h.symm]; rfl
  · rfl
theorem pj_more {xs : List Int} (_h3 : xs.length = 1 ∨ xs.length = 3) {j : Nat} (hj : j + 1 < xs.length) : pj xs j ++ digs (xs[j]).toNat ++ [32] = pj xs (j + 1) := by
  unfold pj
  rw [if_neg (by omega), if_neg (by omega), take_snoc' xs (by omega), List.flatMap_append]
  simp
theorem pj_end {xs : List Int} (h3 : xs.length = 1 ∨ xs.length = 3) {j : Nat} (hj : j + 1 = xs.length) : pj xs j ++ digs (xs[j]'(by omega)).toNat = pj xs (j + 1) := by
  match xs, h3 with
  | [x], _ =>
    have : j = 0 := by simpa using hj
    subst this
    simp [pj, joinB]
  | [x, y, z], _ =>
    have : j = 2 := by simpa using hj
    subst this
    simp [pj, joinB]
  | [_, _], h => simp at h
  | _ :: _ :: _ :: _ :: _, h => simp at h
theorem pj_all {xs : List Int} : pj xs xs.length = joinB xs := if_pos rfl
theorem wr_take {K W : Int} {px : List Int} {k : Nat} (h : k < px.length) : wrL K W 0 (px.take (k + 1)) = wrL K W 0 (px.take k) ++ (joinB (unpackS px[k]) ++ if nlB K W k = true then [10] else []) := by
  rw [take_snoc' px h, wrL_snoc]
  simp only [pxB, Nat.zero_add, List.length_take, show min k px.length = k by omega]
theorem nl_t {K W : Int} {k : Nat} (h : K > 1 ∨ (k : Int) % W = W - 1 ∨ (k : Int) % W % 70 = 69) {b bs : List Int} (e : bs = b) : b ++ [10] = bs ++ (if nlB K W k = true then [10] else []) := by
  rw [show nlB K W k = true from decide_eq_true h, if_pos rfl, e]
theorem nl_f {K W : Int} {k : Nat} (h1 : ¬ K > 1) (h2 : ¬ (k : Int) % W = W - 1) (h3 : ¬ (k : Int) % W % 70 = 69) {b bs : List Int} (e : bs = b) : b = bs ++ (if nlB K W k = true then [10] else []) := by
  rw [show nlB K W k = false from decide_eq_false (by omega), e]; simp
structure WrX where
  (k : Nat) (s : ByteArray)

set_option maxHeartbeats 4000000 in
theorem rWrite_spec (A0 : HP) (a0 : Option Addr) (c0 : Nat) (px : List Int) (hA : RdsL [A0] a0 (pxs px)) (hr : ∀ p ∈ px, 0 ≤ p ∧ p < 18446744073709551616) (hl : px.length ≤ 300000) (K W H M : Int) : Fn Try.prog 20 #[.slice a0 px.length c0, .agg #[.int .i64 K, .int .i64 W, .int .i64 H, .int .i64 M]] [A0] (fun v l => ∃ s e, v = .tuple #[.string s, .int .i64 e] ∧ ((WrP K W H M px ∧ e = 0 ∧ bsOf s = wrL K W 0 px ∧ s.size ≤ px.length * 300000) ∨ (¬ WrP K W H M px ∧ e = 1 ∧ s = ⟨#[]⟩)) ∧ l = [A0]) := by
  refine Fn.intro (vs := [.slice a0 px.length c0, .agg #[.int .i64 K, .int .i64 W, .int .i64 H, .int .i64 M]]) Try.func20 rfl Try.ntmps20 rfl ?_
  refine Wp.seq ?_
  refine Wp.region ?_
  refine s_box rfl rfl rfl ?_
  intro g1
  refine s_as rfl rfl ?_
  refine s_as rfl rfl ?_
  refine WpL.nil ?_
  refine Wp.seq ?_
  refine Wp.region ?_
  refine s_lda (vs := [_, _, _, _]) rfl rfl rfl (by rfl) ?_
  refine s_callf rfl rfl (by repeat' constructor) (rMay_spec _ _ _ _) ?_
  rintro _ _ ⟨rfl, rfl⟩
  simp only [napp]
  refine s_as rfl rfl ?_
  refine WpL.nil ?_
  refine Wp.seq ?_
  refine Wp.seq ?_
  refine Wp.region ?_
  refine s_mv rfl rfl ?_
  refine s_notD rfl rfl ?_
  refine WpL.nil ?_
  refine Wp.condD rfl (fun hP => ?_) (fun hP => ?_)
  · refine Wp.seq ?_
    refine Wp.region ?_
    refine s_as rfl rfl ?_
    refine s_as rfl rfl ?_
    refine WpL.nil ?_
    refine Wp.ret ?_
    apply RetQ.mk
    · exact (Res.two rfl rfl rfl)
    · exact ⟨_, _, rfl, .inr ⟨fun h => hP h.1, rfl, rfl⟩, rfl⟩
    · first | exact Ent.refl _ | exact Ent.nil _ | exact Take.ent' (by repeat' constructor) | (repeat (first | exact Ent.refl _ | refine Ent.drop ?_))
  · have hP := Classical.not_not.1 hP
    have hP2 := hP.1
    unfold MayH at hP2
    have hK4 := hP.2
    have hWH0 : 0 ≤ W * H := Int.mul_nonneg (by omega) (by omega)
    have hWH : W * H ≤ 4096 * 65536 := Int.mul_le_mul (by omega) (by omega) (by omega) (by omega)
    refine Wp.skip ?_
    refine Wp.seq ?_
    refine Wp.seq ?_
    refine Wp.region ?_
    refine s_mv rfl rfl ?_
    refine s_lenl rfl rfl ?_
    refine s_fa (o2 := 1) rfl rfl rfl ?_
    refine s_ld rfl rfl (by rfl) ?_
    refine s_fa (o2 := 2) rfl rfl rfl ?_
    refine s_ld rfl rfl (by rfl) ?_
    refine s_mul rfl rfl rfl (w_i64 (by omega) (by omega)) ?_
    refine s_ne rfl rfl rfl ?_
    refine WpL.nil ?_
    refine Wp.condD rfl (fun h1 => ?_) (fun h1 => ?_)
    · refine Wp.seq ?_
      refine Wp.region ?_
      refine s_as rfl rfl ?_
      refine s_as rfl rfl ?_
      refine WpL.nil ?_
      refine Wp.ret ?_
      apply RetQ.mk
      · exact (Res.two rfl rfl rfl)
      · exact ⟨_, _, rfl, .inr ⟨fun h => h1 h.2.1, rfl, rfl⟩, rfl⟩
      · first | exact Ent.refl _ | exact Ent.nil _ | exact Take.ent' (by repeat' constructor) | (repeat (first | exact Ent.refl _ | refine Ent.drop ?_))
    · refine Wp.skip ?_
      refine Wp.seq ?_
      refine Wp.region ?_
      refine s_as rfl rfl ?_
      refine WpL.nil ?_
      refine Wp.seq ?_
      refine Wp.seq ?_
      refine Wp.region ?_
      refine s_as rfl rfl ?_
      refine WpL.nil ?_
      refine Wp.block ?_
      refine Wp.loopD (σ := WrX) (fun x => x.k ≤ px.length ∧ bsOf x.s = wrL K W 0 (px.take x.k) ∧ (∀ p ∈ px.take x.k, FitP p (chK K) M) ∧ x.s.size ≤ x.k * 300000) [4, 5, 7, 8, 9, 10, 11, 12, 25, 26, 27, 28, 29, 30, 31, 32, 33, 34, 35, 36, 37, 38, 39, 40, 41, 42, 43, 44, 45, 46, 47, 48, 49, 50, 51, 52, 53, 54, 55, 56, 57, 58, 59, 60, 61, 62, 63, 64, 65, 66, 67, 68, 69, 70, 71, 72, 73, 74, 75, 76, 77, 78, 79, 80, 81, 82, 83, 84, 85] (fun x => [(8, .int .i64 (x.k : Int)), (7, .string x.s)]) (fun x => [blk g1 [.int .i64 K, .int .i64 W, .int .i64 H, .int .i64 M] 23, A0]) (fun x => px.length - x.k) ⟨0, ⟨#[]⟩⟩ ?_ (by repeat (first | exact FrLe.nil | refine FrLe.cons rfl ?_)) ?_ ?_
      · exact ⟨Nat.zero_le _, rfl, by simp, Nat.zero_le _⟩
      · first | exact Ent.refl _ | exact Ent.nil _ | exact Take.ent' (by repeat' constructor) | (repeat (first | exact Ent.refl _ | refine Ent.drop ?_))
      · rintro ⟨k, s⟩ ⟨hk, hbs, hfit, hsz⟩
        dsimp only at hk hbs hfit hsz ⊢
        refine Wp.seq ?_
        refine Wp.seq ?_
        refine Wp.region ?_
        refine s_mv rfl rfl ?_
        refine s_mv rfl rfl ?_
        refine s_lenl rfl rfl ?_
        refine s_lt rfl rfl rfl ?_
        refine WpL.nil ?_
        refine Wp.condD rfl (fun h3 => ?_) (fun h3 => ?_)
        · have hlt : k < px.length := by omega
          have hpb := hr _ (List.getElem_mem hlt)
          refine Wp.skip ?_
          refine Wp.seq ?_
          refine Wp.block ?_
          refine Wp.seq ?_
          apply Wp.draw mixed [⟨31, _, []⟩, ⟨32, _, []⟩, ⟨33, _, [0, 1]⟩, ⟨34, _, [2]⟩, ⟨35, _, []⟩, ⟨36, _, [4]⟩, ⟨37, _, [3, 5]⟩, ⟨9, _, [6, 0, 1, 2, 3, 4, 5]⟩] rfl
          · refine AllObs.mk ?_ ?_
            · refine s_mv rfl rfl ?_
              exact obN rfl
            refine AllObs.mk ?_ ?_
            · refine s_mv rfl rfl ?_
              exact obN rfl
            refine AllObs.mk ?_ ?_
            · refine s_ixa k rfl rfl rfl hA (by first | exact Take.ent' (by repeat' constructor) | (repeat (first | exact Ent.refl _ | refine Ent.drop ?_))) rfl (by omega) (by rw [pxs_len]; omega) ?_
              exact obN rfl
            refine AllObs.mk ?_ ?_
            · refine s_ldx rfl rfl hA (by first | exact Take.ent' (by repeat' constructor) | (repeat (first | exact Ent.refl _ | refine Ent.drop ?_))) (pxs_at px hlt) ?_
              exact obN rfl
            refine AllObs.mk ?_ ?_
            · refine s_lda (vs := [_, _, _, _]) rfl rfl rfl (by rfl) ?_
              exact obN rfl
            refine AllObs.mk ?_ ?_
            · refine s_callf rfl rfl (by repeat' constructor) (rFormat_spec _ _ _ _ (by omega) (by omega)) ?_
              rintro _ _ ⟨rfl, rfl⟩
              simp only [napp]
              exact WpL.nil ⟨rfl, rfl, rfl, by first | exact Ent.refl _ | exact Ent.nil _ | exact Take.ent' (by repeat' constructor) | (repeat (first | exact Ent.refl _ | refine Ent.drop ?_))⟩
            refine AllObs.mk ?_ ?_
            · refine s_callf rfl rfl (by repeat' constructor) (rFits_spec _ _ _ hpb.1 hpb.2) ?_
              rintro _ _ ⟨rfl, rfl⟩
              simp only [napp]
              exact WpL.nil ⟨rfl, rfl, rfl, by first | exact Ent.refl _ | exact Ent.nil _ | exact Take.ent' (by repeat' constructor) | (repeat (first | exact Ent.refl _ | refine Ent.drop ?_))⟩
            refine AllObs.mk ?_ ?_
            · refine s_as rfl rfl ?_
              exact obN rfl
            exact AllObs.nil
          · refine Wp.seq ?_
            refine Wp.seq ?_
            refine Wp.region ?_
            refine s_mv rfl rfl ?_
            refine s_notD rfl rfl ?_
            refine WpL.nil ?_
            refine Wp.condD rfl (fun hpf => ?_) (fun hpf => ?_)
            · refine Wp.seq ?_
              refine Wp.region ?_
              refine s_as rfl rfl ?_
              refine s_as rfl rfl ?_
              refine WpL.nil ?_
              refine Wp.ret ?_
              apply RetQ.mk
              · exact (Res.two rfl rfl rfl)
              · exact ⟨_, _, rfl, .inr ⟨fun h => hpf (h.2.2 _ (List.getElem_mem hlt)), rfl, rfl⟩, rfl⟩
              · first | exact Ent.refl _ | exact Ent.nil _ | exact Take.ent' (by repeat' constructor) | (repeat (first | exact Ent.refl _ | refine Ent.drop ?_))
            · have hpf := Classical.not_not.1 hpf
              have hcan := can_of_fit hpb.1 hpb.2 hpf
              have hchp : (unpackS px[k]).length = 1 ∨ (unpackS px[k]).length = 3 := by have h1 := hcan.1; have h2 := chK_or K; omega
              refine Wp.skip ?_
              refine Wp.seq ?_
              refine Wp.region ?_
              refine s_mv rfl rfl ?_
              refine s_mv rfl rfl ?_
              refine s_ixa k rfl rfl rfl hA (by first | exact Take.ent' (by repeat' constructor) | (repeat (first | exact Ent.refl _ | refine Ent.drop ?_))) rfl (by omega) (by rw [pxs_len]; omega) ?_
              refine s_ldx rfl rfl hA (by first | exact Take.ent' (by repeat' constructor) | (repeat (first | exact Ent.refl _ | refine Ent.drop ?_))) (pxs_at px hlt) ?_
              refine s_callf rfl rfl (by repeat' constructor) (rUnpack_spec _ hpb.1 hpb.2) ?_
              rintro _ _ ⟨A1, a1, c1, rfl, rfl, hA1, hn1⟩
              simp only [napp]
              refine s_as rfl rfl ?_
              refine WpL.nil ?_
              refine Wp.seq ?_
              refine Wp.seq ?_
              refine Wp.region ?_
              refine s_as rfl rfl ?_
              refine WpL.nil ?_
              refine Wp.block ?_
              refine Wp.loopD (σ := WrX) (fun y => y.k ≤ (unpackS px[k]).length ∧ bsOf y.s = wrL K W 0 (px.take k) ++ pj (unpackS px[k]) y.k ∧ y.s.size ≤ k * 300000 + y.k * 70000) [7, 11, 45, 46, 47, 48, 49, 50, 51, 52, 53, 54, 55, 56, 57, 58, 59, 60, 61, 62, 63, 64] (fun y => [(11, .int .i64 (y.k : Int)), (7, .string y.s)]) (fun y => [A1, blk g1 [.int .i64 K, .int .i64 W, .int .i64 H, .int .i64 M] 23, A0]) (fun y => (unpackS px[k]).length - y.k) ⟨0, s⟩ ?_ (by repeat (first | exact FrLe.nil | refine FrLe.cons rfl ?_)) ?_ ?_
              · exact ⟨Nat.zero_le _, by simp only; rw [pj_zero, List.append_nil]; exact hbs, by rw [Nat.zero_mul, Nat.add_zero]; exact hsz⟩
              · first | exact Ent.refl _ | exact Ent.nil _ | exact Take.ent' (by repeat' constructor) | (repeat (first | exact Ent.refl _ | refine Ent.drop ?_))
              · rintro ⟨j, s2⟩ ⟨hj, hjb, hjz⟩
                dsimp only at hj hjb hjz ⊢
                refine Wp.seq ?_
                refine Wp.seq ?_
                refine Wp.region ?_
                refine s_mv rfl rfl ?_
                refine s_mv rfl rfl ?_
                refine s_lenl rfl rfl ?_
                refine s_lt rfl rfl rfl ?_
                refine WpL.nil ?_
                refine Wp.condD rfl (fun h6 => ?_) (fun h6 => ?_)
                · have hlj : j < (unpackS px[k]).length := by omega
                  have hsm := hcan.2.2 _ (List.getElem_mem hlj)
                  refine Wp.skip ?_
                  refine Wp.seq ?_
                  refine Wp.block ?_
                  refine Wp.seq ?_
                  refine Wp.region ?_
                  refine s_mv rfl rfl ?_
                  refine s_mv rfl rfl ?_
                  refine s_mv rfl rfl ?_
                  refine s_ixa j rfl rfl rfl hA1 (by first | exact Take.ent' (by repeat' constructor) | (repeat (first | exact Ent.refl _ | refine Ent.drop ?_))) rfl (by omega) (by rw [ints_len]; omega) ?_
                  refine s_ldx rfl rfl hA1 (by first | exact Take.ent' (by repeat' constructor) | (repeat (first | exact Ent.refl _ | refine Ent.drop ?_))) (ints_at (unpackS px[k]) hlj) ?_
                  refine s_callf rfl rfl (by repeat' constructor) (Decimal_spec _ hsm.1 (by omega)) ?_
                  rintro _ _ ⟨s1, rfl, hs1, rfl⟩
                  simp only [napp]
                  have hz1 : s1.size ≤ 65536 := by rw [← bsOf_len, hs1]; have := digs_len ((unpackS px[k])[j]).toNat; omega
                  refine s_cat rfl rfl rfl (by omega) ?_
                  refine s_as rfl rfl ?_
                  refine WpL.nil ?_
                  refine Wp.seq ?_
                  refine Wp.region ?_
                  refine s_mv rfl rfl ?_
                  refine s_mv rfl rfl ?_
                  refine s_lenl rfl rfl ?_
                  first | refine s_sub rfl rfl rfl (w_i64 (by omega) (by omega)) ?_ | refine s_subw rfl rfl rfl ?_
                  refine s_lt rfl rfl rfl ?_
                  refine WpL.nil ?_
                  refine Wp.condD rfl (fun h7 => ?_) (fun h7 => ?_)
                  · refine Wp.region ?_
                    refine s_mv rfl rfl ?_
                    refine s_cat rfl rfl rfl (by rw [ByteArray.size_append]; have : (⟨#[32]⟩ : ByteArray).size = 1 := rfl; omega) ?_
                    refine s_as rfl rfl ?_
                    refine WpL.nil ?_
                    refine Wp.region ?_
                    refine s_mv rfl rfl ?_
                    first | refine s_add rfl rfl rfl (w_i64 (by omega) (by omega)) ?_ | refine s_addw rfl rfl rfl ?_
                    refine s_as rfl rfl ?_
                    refine WpL.nil ?_
                    refine loopD.next (⟨j + 1, s2 ++ s1 ++ ⟨#[32]⟩⟩ : WrX) ?_ ?_ (by repeat (first | exact Top.refl | refine Top.push rfl ?_ | refine Top.drop rfl ?_)) (by repeat (first | exact FrLe.nil | refine FrLe.cons rfl ?_)) ?_
                    · refine ⟨by simp only; omega, ?_, ?_⟩
                      · simp only
                        rw [bsOf_app, bsOf_app, hjb, hs1, ← pj_more hchp (by omega), show bsOf ⟨#[32]⟩ = [32] from rfl]
                        simp only [List.append_assoc]
                      · simp only [ByteArray.size_append]; have : (⟨#[32]⟩ : ByteArray).size = 1 := rfl; omega
                    · simp only; omega
                    · first | exact Ent.refl _ | exact Ent.nil _ | exact Take.ent' (by repeat' constructor) | (repeat (first | exact Ent.refl _ | refine Ent.drop ?_))
                  · refine Wp.skip ?_
                    refine Wp.region ?_
                    refine s_mv rfl rfl ?_
                    first | refine s_add rfl rfl rfl (w_i64 (by omega) (by omega)) ?_ | refine s_addw rfl rfl rfl ?_
                    refine s_as rfl rfl ?_
                    refine WpL.nil ?_
                    refine loopD.next (⟨j + 1, s2 ++ s1⟩ : WrX) ?_ ?_ (by repeat (first | exact Top.refl | refine Top.push rfl ?_ | refine Top.drop rfl ?_)) (by repeat (first | exact FrLe.nil | refine FrLe.cons rfl ?_)) ?_
                    · refine ⟨by simp only; omega, ?_, ?_⟩
                      · simp only
                        rw [bsOf_app, hjb, hs1, ← pj_end hchp (by omega)]
                        simp only [List.append_assoc]
                      · simp only [ByteArray.size_append]; omega
                    · simp only; omega
                    · first | exact Ent.refl _ | exact Ent.nil _ | exact Take.ent' (by repeat' constructor) | (repeat (first | exact Ent.refl _ | refine Ent.drop ?_))
                · have hje : j = (unpackS px[k]).length := by omega
                  have hjs : pj (unpackS px[k]) j = joinB (unpackS px[k]) := by rw [hje, pj_all]
                  rw [hjs] at hjb
                  have hm0 := Int.emod_nonneg (k : Int) (show W ≠ 0 by omega)
                  have hm1 := Int.emod_lt_of_pos (k : Int) (show 0 < W by omega)
                  refine Wp.exit ?_
                  refine Wp.seq ?_
                  refine Wp.region ?_
                  refine s_mv rfl rfl ?_
                  refine s_fa (o2 := 1) rfl rfl rfl ?_
                  refine s_ld rfl rfl (by rfl) ?_
                  refine s_rem rfl rfl rfl (by omega) (by omega) ?_
                  refine s_as rfl rfl ?_
                  refine WpL.nil ?_
                  refine Wp.seq ?_
                  refine Wp.region ?_
                  refine s_fa (o2 := 0) rfl rfl rfl ?_
                  refine s_ld rfl rfl (by rfl) ?_
                  refine s_gt rfl rfl rfl ?_
                  refine s_mv rfl rfl ?_
                  refine WpL.grd rfl rfl rfl (fun hg1 => ?_) (fun hg1 => ?_)
                  · have hg1 := of_decide_eq_false hg1
                    refine s_mv rfl rfl ?_
                    refine WpL.gon rfl rfl ?_
                    refine s_fa (o2 := 1) rfl rfl rfl ?_
                    refine WpL.gon rfl rfl ?_
                    refine s_ld rfl rfl (by rfl) ?_
                    refine WpL.gon rfl rfl ?_
                    first | refine s_sub rfl rfl rfl (w_i64 (by omega) (by omega)) ?_ | refine s_subw rfl rfl rfl ?_
                    refine WpL.gon rfl rfl ?_
                    refine s_eq rfl rfl rfl ?_
                    refine s_pickF rfl rfl rfl ?_
                    refine s_mv rfl rfl ?_
                    refine WpL.grd rfl rfl rfl (fun hg2 => ?_) (fun hg2 => ?_)
                    · have hg2 := of_decide_eq_false hg2
                      refine s_mv rfl rfl ?_
                      refine WpL.gon rfl rfl ?_
                      refine s_rem rfl rfl rfl (by omega) (by omega) ?_
                      refine WpL.gon rfl rfl ?_
                      refine s_eq rfl rfl rfl ?_
                      refine s_pickF rfl rfl rfl ?_
                      refine WpL.nil ?_
                      refine Wp.condD rfl (fun h8 => ?_) (fun h8 => ?_)
                      · refine Wp.region ?_
                        refine s_mv rfl rfl ?_
                        refine s_cat rfl rfl rfl (by have : (⟨#[10]⟩ : ByteArray).size = 1 := rfl; omega) ?_
                        refine s_as rfl rfl ?_
                        refine WpL.nil ?_
                        refine Wp.region ?_
                        refine s_mv rfl rfl ?_
                        first | refine s_add rfl rfl rfl (w_i64 (by omega) (by omega)) ?_ | refine s_addw rfl rfl rfl ?_
                        refine s_as rfl rfl ?_
                        refine WpL.nil ?_
                        refine loopD.next (⟨k + 1, s2 ++ ⟨#[10]⟩⟩ : WrX) ?_ ?_ (by repeat (first | exact Top.refl | refine Top.push rfl ?_ | refine Top.drop rfl ?_)) (by repeat (first | exact FrLe.nil | refine FrLe.cons rfl ?_)) ?_
                        · refine ⟨by simp only; omega, ?_, fun p hp => ?_, ?_⟩
                          · simp only
                            rw [bsOf_app, show bsOf ⟨#[10]⟩ = [10] from rfl, wr_take hlt, ← List.append_assoc]
                            exact nl_t (.inr (.inr (by omega))) hjb.symm
                          · rw [take_snoc' px hlt] at hp
                            rcases List.mem_append.1 hp with hp | hp
                            · exact hfit p hp
                            · have := List.mem_singleton.1 hp; subst this; exact hpf
                          · simp only [ByteArray.size_append]; have : (⟨#[10]⟩ : ByteArray).size = 1 := rfl; omega
                        · simp only; omega
                        · first | exact Ent.refl _ | exact Ent.nil _ | exact Take.ent' (by repeat' constructor) | (repeat (first | exact Ent.refl _ | refine Ent.drop ?_))
                      · refine Wp.skip ?_
                        refine Wp.region ?_
                        refine s_mv rfl rfl ?_
                        first | refine s_add rfl rfl rfl (w_i64 (by omega) (by omega)) ?_ | refine s_addw rfl rfl rfl ?_
                        refine s_as rfl rfl ?_
                        refine WpL.nil ?_
                        refine loopD.next (⟨k + 1, s2⟩ : WrX) ?_ ?_ (by repeat (first | exact Top.refl | refine Top.push rfl ?_ | refine Top.drop rfl ?_)) (by repeat (first | exact FrLe.nil | refine FrLe.cons rfl ?_)) ?_
                        · refine ⟨by simp only; omega, ?_, fun p hp => ?_, ?_⟩
                          · simp only
                            rw [wr_take hlt, ← List.append_assoc]
                            exact nl_f (by omega) (by omega) (by omega) hjb.symm
                          · rw [take_snoc' px hlt] at hp
                            rcases List.mem_append.1 hp with hp | hp
                            · exact hfit p hp
                            · have := List.mem_singleton.1 hp; subst this; exact hpf
                          · simp only; omega
                        · simp only; omega
                        · first | exact Ent.refl _ | exact Ent.nil _ | exact Take.ent' (by repeat' constructor) | (repeat (first | exact Ent.refl _ | refine Ent.drop ?_))
                    · have hg2 := of_decide_eq_true hg2
                      refine WpL.goff rfl rfl rfl (by decide) ?_
                      refine WpL.goff rfl rfl rfl (by decide) ?_
                      refine s_pickT rfl rfl rfl ?_
                      refine WpL.nil ?_
                      refine Wp.condT rfl ?_
                      refine Wp.region ?_
                      refine s_mv rfl rfl ?_
                      refine s_cat rfl rfl rfl (by have : (⟨#[10]⟩ : ByteArray).size = 1 := rfl; omega) ?_
                      refine s_as rfl rfl ?_
                      refine WpL.nil ?_
                      refine Wp.region ?_
                      refine s_mv rfl rfl ?_
                      first | refine s_add rfl rfl rfl (w_i64 (by omega) (by omega)) ?_ | refine s_addw rfl rfl rfl ?_
                      refine s_as rfl rfl ?_
                      refine WpL.nil ?_
                      refine loopD.next (⟨k + 1, s2 ++ ⟨#[10]⟩⟩ : WrX) ?_ ?_ (by repeat (first | exact Top.refl | refine Top.push rfl ?_ | refine Top.drop rfl ?_)) (by repeat (first | exact FrLe.nil | refine FrLe.cons rfl ?_)) ?_
                      · refine ⟨by simp only; omega, ?_, fun p hp => ?_, ?_⟩
                        · simp only
                          rw [bsOf_app, show bsOf ⟨#[10]⟩ = [10] from rfl, wr_take hlt, ← List.append_assoc]
                          exact nl_t (.inr (.inl (by omega))) hjb.symm
                        · rw [take_snoc' px hlt] at hp
                          rcases List.mem_append.1 hp with hp | hp
                          · exact hfit p hp
                          · have := List.mem_singleton.1 hp; subst this; exact hpf
                        · simp only [ByteArray.size_append]; have : (⟨#[10]⟩ : ByteArray).size = 1 := rfl; omega
                      · simp only; omega
                      · first | exact Ent.refl _ | exact Ent.nil _ | exact Take.ent' (by repeat' constructor) | (repeat (first | exact Ent.refl _ | refine Ent.drop ?_))
                  · have hg1 := of_decide_eq_true hg1
                    refine WpL.goff rfl rfl rfl (by decide) ?_
                    refine WpL.goff rfl rfl rfl (by decide) ?_
                    refine WpL.goff rfl rfl rfl (by decide) ?_
                    refine WpL.goff rfl rfl rfl (by decide) ?_
                    refine s_pickT rfl rfl rfl ?_
                    refine s_mv rfl rfl ?_
                    refine WpL.goff rfl rfl rfl (by decide) ?_
                    refine WpL.goff rfl rfl rfl (by decide) ?_
                    refine WpL.goff rfl rfl rfl (by decide) ?_
                    refine s_pickT rfl rfl rfl ?_
                    refine WpL.nil ?_
                    refine Wp.condT rfl ?_
                    refine Wp.region ?_
                    refine s_mv rfl rfl ?_
                    refine s_cat rfl rfl rfl (by have : (⟨#[10]⟩ : ByteArray).size = 1 := rfl; omega) ?_
                    refine s_as rfl rfl ?_
                    refine WpL.nil ?_
                    refine Wp.region ?_
                    refine s_mv rfl rfl ?_
                    first | refine s_add rfl rfl rfl (w_i64 (by omega) (by omega)) ?_ | refine s_addw rfl rfl rfl ?_
                    refine s_as rfl rfl ?_
                    refine WpL.nil ?_
                    refine loopD.next (⟨k + 1, s2 ++ ⟨#[10]⟩⟩ : WrX) ?_ ?_ (by repeat (first | exact Top.refl | refine Top.push rfl ?_ | refine Top.drop rfl ?_)) (by repeat (first | exact FrLe.nil | refine FrLe.cons rfl ?_)) ?_
                    · refine ⟨by simp only; omega, ?_, fun p hp => ?_, ?_⟩
                      · simp only
                        rw [bsOf_app, show bsOf ⟨#[10]⟩ = [10] from rfl, wr_take hlt, ← List.append_assoc]
                        exact nl_t (.inl (by omega)) hjb.symm
                      · rw [take_snoc' px hlt] at hp
                        rcases List.mem_append.1 hp with hp | hp
                        · exact hfit p hp
                        · have := List.mem_singleton.1 hp; subst this; exact hpf
                      · simp only [ByteArray.size_append]; have : (⟨#[10]⟩ : ByteArray).size = 1 := rfl; omega
                    · simp only; omega
                    · first | exact Ent.refl _ | exact Ent.nil _ | exact Take.ent' (by repeat' constructor) | (repeat (first | exact Ent.refl _ | refine Ent.drop ?_))
        · refine Wp.exit ?_
          refine Wp.seq ?_
          refine Wp.region ?_
          refine s_mv rfl rfl ?_
          refine s_as rfl rfl ?_
          refine s_as rfl rfl ?_
          refine WpL.nil ?_
          refine Wp.ret ?_
          apply RetQ.mk
          · exact (Res.two rfl rfl rfl)
          · have hke : k = px.length := by omega
            have hz : s.size ≤ px.length * 300000 := by rw [← hke]; exact hsz
            rw [hke, List.take_length] at hfit hbs
            exact ⟨_, _, rfl, .inl ⟨⟨hP, by omega, hfit⟩, rfl, hbs, hz⟩, rfl⟩
          · first | exact Ent.refl _ | exact Ent.nil _ | exact Take.ent' (by repeat' constructor) | (repeat (first | exact Ent.refl _ | refine Ent.drop ?_))

end Go.Proofs.Ytoiecgmnnjipfaa
