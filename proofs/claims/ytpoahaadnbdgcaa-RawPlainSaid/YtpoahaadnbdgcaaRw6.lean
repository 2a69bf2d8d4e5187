/- Walks. -/
import Derived.Test.YtpoahaadnbdgcaaRw5
namespace Go.Proofs.Ytpoahaadnbdgcaa
open Go.RowKit Go.Shelf


theorem wrRaw_succ (K : Int) (W w : Nat) (px : List Int) (n : Nat) : wrRaw K W w px (n + 1) = wrRaw K W w px n ++ rowB K w (((px.drop (n * W)).take W).flatMap unpackS) := by simp [wrRaw, wrRows, List.range_succ]
theorem can_fit {K M p : Int} (h : FitP p (chK K) M) : ((unpackS p).length : Int) = chK K := h.2.1
theorem flat_snoc {l : List Int} {j : Nat} (h : j < l.length) : ((l.take j).flatMap unpackS) ++ unpackS l[j] = (l.take (j + 1)).flatMap unpackS := by
  rw [take_snoc' l h, List.flatMap_append]; simp
theorem flat_le (l : List Int) : (l.flatMap unpackS).length ≤ 3 * l.length := by
  induction l with
  | nil => simp
  | cons p l ih => have := unpackS_len p; rw [List.flatMap_cons, List.length_append, List.length_cons]; omega
theorem enc_snoc {w : Nat} {l : List Int} {j : Nat} (h : j < l.length) : ((l.take j).flatMap (encS w)) ++ encS w l[j] = (l.take (j + 1)).flatMap (encS w) := by
  rw [take_snoc' l h, List.flatMap_append]; simp
theorem enc_le (w : Nat) (l : List Int) : (l.flatMap (encS w)).length ≤ 2 * l.length := by
  induction l with
  | nil => simp
  | cons p l ih =>
    have : (encS w p).length ≤ 2 := by unfold encS; split <;> simp
    rw [List.flatMap_cons, List.length_append, List.length_cons]; omega
theorem wrRaw_len {K : Int} {W w : Nat} (hw : w = 1 ∨ w = 2) {px : List Int} {Hn : Nat} (hpl : px.length = W * Hn) (hl : ∀ p ∈ px, (unpackS p).length = (chK K).toNat) : ∀ n, n ≤ Hn → (wrRaw K W w px n).length = strd K W w * n
  | 0, _ => by simp [wrRaw, wrRows]
  | n + 1, h => by
    rw [wrRaw_succ, List.length_append, wrRaw_len hw hpl hl n (by omega), Nat.mul_add, Nat.mul_one]
    congr 1
    have hrl : ((px.drop (n * W)).take W).length = W := by
      rw [List.length_take, List.length_drop, hpl]
      have : (n + 1) * W ≤ Hn * W := Nat.mul_le_mul_right _ h
      rw [Nat.add_mul, Nat.one_mul, Nat.mul_comm Hn] at this
      omega
    have hfl := flat_len ((px.drop (n * W)).take W) fun p hp => hl p (List.mem_of_mem_drop (List.mem_of_mem_take hp))
    rw [hrl] at hfl
    unfold rowB strd
    split
    · rename_i h4
      have e1 : (chK K).toNat = 1 := by rw [h4]; rfl
      rw [packB_len, hfl, e1, Nat.mul_one]
    · rw [enc_len hw, hfl]
def zs (n : Nat) : List Int := List.replicate n 0
theorem row_put {A R : List Int} {n st N : Nat} (hA : A.length = st * n) (_hR : R.length = st) (hN : st * (n + 1) ≤ N) : ((A ++ zs (N - st * n)).take (st * n)) ++ R ++ ((A ++ zs (N - st * n)).drop (st * n + st)) = (A ++ R) ++ zs (N - st * (n + 1)) := by
  have e : st * (n + 1) = st * n + st := by rw [Nat.mul_add, Nat.mul_one]
  rw [← hA, List.take_left, ← List.drop_drop, List.drop_left]
  congr 1
  unfold zs
  rw [List.drop_replicate]
  congr 1
  omega
theorem ints_ne {l : List Int} (h : l ≠ []) : ints l ≠ [] := fun e => h (by cases l with | nil => rfl | cons x l => cases e)
structure WyX where
  (y : Nat)
structure WjX where
  (j : Nat) (a : Option Addr) (c m : Nat)

theorem Size_spec (K : Int) (W Hn : Nat) (M : Int) (hR : RawH K (W : Int) (Hn : Int) M) : Fn Try.prog 20 #[.agg #[.int .i64 K, .int .i64 (W : Int), .int .i64 (Hn : Int), .int .i64 M]] [] (fun v l => v = .int .i64 ((strd K W (wideM M) * Hn : Nat) : Int) ∧ l = []) := by
  have hb := hR.bd
  have hch := chK_13 K
  have hw := wideM_or M
  have hsb := strd_bd (K := K) (W := W) hw (by omega) (by omega)
  have hWH : W * Hn ≤ 4096 * 65536 := Nat.mul_le_mul (by omega) (by omega)
  have hWHi : (W : Int) * (Hn : Int) = ((W * Hn : Nat) : Int) := by push_cast; rfl
  have hs1 : (2 : Int) * (W : Int) * (Hn : Int) = ((2 * (W * Hn) : Nat) : Int) := by rw [Int.mul_assoc, hWHi]; push_cast; rfl
  have hs2 : 0 ≤ (2 : Int) * (W : Int) * (Hn : Int) * chK K ∧ (2 : Int) * (W : Int) * (Hn : Int) * chK K ≤ 4000000000 := by rw [hs1]; rcases hch with e | e <;> rw [e] <;> omega
  have hs3 : 0 ≤ (W : Int) * (Hn : Int) * chK K ∧ (W : Int) * (Hn : Int) * chK K ≤ 2000000000 := by rw [hWHi]; rcases hch with e | e <;> rw [e] <;> omega
  have hs4 : 0 ≤ (Hn : Int) * (((W : Int) + 7) / 8) ∧ (Hn : Int) * (((W : Int) + 7) / 8) ≤ 65536 * 4096 := ⟨Int.mul_nonneg (by omega) (by omega), Int.mul_le_mul (by omega) (by omega) (by omega) (by omega)⟩
  refine Fn.intro (vs := [.agg #[.int .i64 K, .int .i64 (W : Int), .int .i64 (Hn : Int), .int .i64 M]]) Try.func20 rfl Try.ntmps20 rfl ?_
  refine Wp.seq ?_
  refine Wp.region ?_
  refine s_box rfl rfl rfl ?_
  intro g1
  refine s_as rfl rfl ?_
  refine WpL.nil ?_
  refine Wp.seq ?_
  refine Wp.block ?_
  refine Wp.seq ?_
  refine Wp.region ?_
  refine s_lda (vs := [_, _, _, _]) rfl rfl rfl (by rfl) ?_
  refine s_callf rfl rfl (by repeat' constructor) (Raw_spec _ _ _ _) ?_
  rintro _ _ ⟨rfl, rfl⟩
  simp only [napp]
  refine s_notD rfl rfl ?_
  refine s_as rfl rfl ?_
  refine WpL.nil ?_
  refine Wp.condDF rfl (fun hn => hn (by omega)) ?_
  refine Wp.seq ?_
  refine Wp.region ?_
  refine s_fa (o2 := 0) rfl rfl rfl ?_
  refine s_ld rfl rfl (by rfl) ?_
  refine s_eq rfl rfl rfl ?_
  refine s_as rfl rfl ?_
  refine WpL.nil ?_
  refine Wp.condD rfl (fun h1 => ?_) (fun h1 => ?_)
  · refine Wp.seq ?_
    refine Wp.region ?_
    refine s_fa (o2 := 2) rfl rfl rfl ?_
    refine s_ld rfl rfl (by rfl) ?_
    refine s_fa (o2 := 1) rfl rfl rfl ?_
    refine s_ld rfl rfl (by rfl) ?_
    first | refine s_add rfl rfl rfl (w_i64 (by omega) (by omega)) ?_ | refine s_addw rfl rfl rfl ?_
    refine s_quo rfl rfl rfl (by omega) (by omega) (w_i64 (by omega) (by omega)) ?_
    refine s_mul rfl rfl rfl (w_i64 (by omega) (by omega)) ?_
    refine s_as rfl rfl ?_
    refine WpL.nil ?_
    refine Wp.ret ?_
    apply RetQ.mk
    · exact (Res.one rfl rfl)
    · exact ⟨by rw [show strd K W (wideM M) = (W + 7) / 8 from if_pos h1, Int.mul_comm]; rfl, rfl⟩
    · first | exact Ent.refl _ | exact Ent.nil _ | exact Take.ent' (by repeat' constructor) | (repeat (first | exact Ent.refl _ | refine Ent.drop ?_))
  · refine Wp.seq ?_
    refine Wp.region ?_
    refine s_fa (o2 := 3) rfl rfl rfl ?_
    refine s_ld rfl rfl (by rfl) ?_
    refine s_gt rfl rfl rfl ?_
    refine s_as rfl rfl ?_
    refine WpL.nil ?_
    refine Wp.condD rfl (fun h2 => ?_) (fun h2 => ?_)
    · refine Wp.seq ?_
      apply Wp.draw mixed [⟨22, _, []⟩, ⟨23, _, [0]⟩, ⟨24, _, [1]⟩, ⟨25, _, []⟩, ⟨26, _, [3]⟩, ⟨27, _, [2, 4]⟩, ⟨28, _, []⟩, ⟨29, _, [6]⟩, ⟨30, _, [7]⟩, ⟨31, _, [5, 8]⟩, ⟨2, _, [9, 7, 0, 1, 2, 3, 4, 5, 6, 8]⟩] rfl
      · refine AllObs.mk ?_ ?_
        · refine s_fa (o2 := 1) rfl rfl rfl ?_
          exact obN rfl
        refine AllObs.mk ?_ ?_
        · refine s_ld rfl rfl (by rfl) ?_
          exact obN rfl
        refine AllObs.mk ?_ ?_
        · refine s_mul rfl rfl rfl (w_i64 (by omega) (by omega)) ?_
          exact obN rfl
        refine AllObs.mk ?_ ?_
        · refine s_fa (o2 := 2) rfl rfl rfl ?_
          exact obN rfl
        refine AllObs.mk ?_ ?_
        · refine s_ld rfl rfl (by rfl) ?_
          exact obN rfl
        refine AllObs.mk ?_ ?_
        · refine s_mul rfl rfl rfl (w_i64 (by omega) (by omega)) ?_
          exact obN rfl
        refine AllObs.mk ?_ ?_
        · refine s_lda (vs := [_, _, _, _]) rfl rfl rfl (by rfl) ?_
          exact obN rfl
        refine AllObs.mk ?_ ?_
        · refine s_callf rfl rfl (by repeat' constructor) (Format_spec _ _ _ _ (by omega)) ?_
          rintro _ _ ⟨rfl, rfl⟩
          simp only [napp]
          rw [show (if K % 3 = 0 then (3 : Int) else 1) = chK K from rfl]
          exact WpL.nil ⟨rfl, rfl, rfl, by first | exact Ent.refl _ | exact Ent.nil _ | exact Take.ent' (by repeat' constructor) | (repeat (first | exact Ent.refl _ | refine Ent.drop ?_))⟩
        refine AllObs.mk ?_ ?_
        · refine s_fv rfl rfl rfl ?_
          exact obN rfl
        refine AllObs.mk ?_ ?_
        · refine s_mul rfl rfl rfl (w_i64 (by omega) (by omega)) ?_
          exact obN rfl
        refine AllObs.mk ?_ ?_
        · refine s_as rfl rfl ?_
          exact obN rfl
        exact AllObs.nil
      · refine Wp.ret ?_
        apply RetQ.mk
        · exact (Res.one rfl rfl)
        · exact ⟨by push_cast; rw [strd_int h1, show wideM M = 2 from if_pos (by omega)]; congr 1; push_cast; ac_rfl, rfl⟩
        · first | exact Ent.refl _ | exact Ent.nil _ | exact Take.ent' (by repeat' constructor) | (repeat (first | exact Ent.refl _ | refine Ent.drop ?_))
    · refine Wp.skip ?_
      refine Wp.seq ?_
      apply Wp.draw mixed [⟨32, _, []⟩, ⟨33, _, [0]⟩, ⟨34, _, []⟩, ⟨35, _, [2]⟩, ⟨36, _, [1, 3]⟩, ⟨37, _, []⟩, ⟨38, _, [5]⟩, ⟨39, _, [6]⟩, ⟨40, _, [4, 7]⟩, ⟨2, _, [8, 6, 0, 1, 2, 3, 4, 5, 7]⟩] rfl
      · refine AllObs.mk ?_ ?_
        · refine s_fa (o2 := 1) rfl rfl rfl ?_
          exact obN rfl
        refine AllObs.mk ?_ ?_
        · refine s_ld rfl rfl (by rfl) ?_
          exact obN rfl
        refine AllObs.mk ?_ ?_
        · refine s_fa (o2 := 2) rfl rfl rfl ?_
          exact obN rfl
        refine AllObs.mk ?_ ?_
        · refine s_ld rfl rfl (by rfl) ?_
          exact obN rfl
        refine AllObs.mk ?_ ?_
        · refine s_mul rfl rfl rfl (w_i64 (by omega) (by omega)) ?_
          exact obN rfl
        refine AllObs.mk ?_ ?_
        · refine s_lda (vs := [_, _, _, _]) rfl rfl rfl (by rfl) ?_
          exact obN rfl
        refine AllObs.mk ?_ ?_
        · refine s_callf rfl rfl (by repeat' constructor) (Format_spec _ _ _ _ (by omega)) ?_
          rintro _ _ ⟨rfl, rfl⟩
          simp only [napp]
          rw [show (if K % 3 = 0 then (3 : Int) else 1) = chK K from rfl]
          exact WpL.nil ⟨rfl, rfl, rfl, by first | exact Ent.refl _ | exact Ent.nil _ | exact Take.ent' (by repeat' constructor) | (repeat (first | exact Ent.refl _ | refine Ent.drop ?_))⟩
        refine AllObs.mk ?_ ?_
        · refine s_fv rfl rfl rfl ?_
          exact obN rfl
        refine AllObs.mk ?_ ?_
        · refine s_mul rfl rfl rfl (w_i64 (by omega) (by omega)) ?_
          exact obN rfl
        refine AllObs.mk ?_ ?_
        · refine s_as rfl rfl ?_
          exact obN rfl
        exact AllObs.nil
      · refine Wp.ret ?_
        apply RetQ.mk
        · exact (Res.one rfl rfl)
        · exact ⟨by push_cast; rw [strd_int h1, show wideM M = 1 from if_neg (by omega)]; congr 1; push_cast; rw [Int.mul_one]; ac_rfl, rfl⟩
        · first | exact Ent.refl _ | exact Ent.nil _ | exact Take.ent' (by repeat' constructor) | (repeat (first | exact Ent.refl _ | refine Ent.drop ?_))

theorem OddR_spec (g : Nat) (p ch mx : Int) (h0 : 0 ≤ p) (h1 : p < 18446744073709551616) : Fn Try.prog 16 #[.int .u64 p, .pointer (some ⟨g, 0, none⟩)] [blk g [.int .i64 ch, .int .i64 mx] 43] (fun v l => v = .bool (!decide (FitP p ch mx)) ∧ l = [blk g [.int .i64 ch, .int .i64 mx] 43]) := by
  refine Fn.intro (vs := [.int .u64 p, .pointer (some ⟨g, 0, none⟩)]) Try.func16 rfl Try.ntmps16 rfl ?_
  refine Wp.seq ?_
  refine Wp.region ?_
  refine s_as rfl rfl ?_
  refine WpL.nil ?_
  refine Wp.seq ?_
  refine Wp.region ?_
  refine s_mv rfl rfl ?_
  refine s_lda (vs := [_, _]) rfl rfl rfl (by rfl) ?_
  refine s_callf rfl rfl (by repeat' constructor) (Fits_spec _ _ _ h0 h1) ?_
  rintro _ _ ⟨rfl, rfl⟩
  simp only [napp]
  refine s_not rfl rfl ?_
  refine s_as rfl rfl ?_
  refine WpL.nil ?_
  refine Wp.ret ?_
  apply RetQ.mk
  · exact (Res.one rfl rfl)
  · exact ⟨rfl, rfl⟩
  · first | exact Ent.refl _ | exact Ent.nil _ | exact Take.ent' (by repeat' constructor) | (repeat (first | exact Ent.refl _ | refine Ent.drop ?_))

theorem IndexOddR_spec (A0 : HP) (a0 : Option Addr) (c0 : Nat) (px : List Int) (hA : RdsL [A0] a0 (pxs px)) (hr : ∀ p ∈ px, 0 ≤ p ∧ p < 18446744073709551616) (hl : px.length ≤ 140737488355328) (g : Nat) (ch mx : Int) : Fn Try.prog 43 #[.slice a0 px.length c0, .func (.func 16) #[] #[.pointer (some ⟨g, 0, none⟩)]] [blk g [.int .i64 ch, .int .i64 mx] 43, A0] (fun v l => ∃ r : Int, v = .int .i64 r ∧ (0 ≤ r ↔ ¬ ∀ p ∈ px, FitP p ch mx) ∧ l = [blk g [.int .i64 ch, .int .i64 mx] 43, A0]) := by
  refine Fn.intro (vs := [.slice a0 px.length c0, .func (.func 16) #[] #[.pointer (some ⟨g, 0, none⟩)]]) Try.func43 rfl Try.ntmps43 rfl ?_
  refine Wp.seq ?_
  refine Wp.region ?_
  refine s_as rfl rfl ?_
  refine WpL.nil ?_
  refine Wp.seq ?_
  refine Wp.seq ?_
  refine Wp.region ?_
  refine s_mv rfl rfl ?_
  refine s_lenl rfl rfl ?_
  refine s_mv rfl rfl ?_
  refine WpL.nil ?_
  refine Wp.block ?_
  refine Wp.loopD (σ := Nat) (fun k => k ≤ px.length ∧ ∀ p ∈ px.take k, FitP p ch mx) [4, 5, 8, 9, 10, 11, 12, 13, 14, 15, 16, 17, 18] (fun k => [(8, .int .i64 (k : Int))]) (fun k => [blk g [.int .i64 ch, .int .i64 mx] 43, A0]) (fun k => px.length - k) 0 ?_ (by repeat (first | exact FrLe.nil | refine FrLe.cons rfl ?_)) ?_ ?_
  · exact ⟨Nat.zero_le _, by simp⟩
  · first | exact Ent.refl _ | exact Ent.nil _ | exact Take.ent' (by repeat' constructor) | (repeat (first | exact Ent.refl _ | refine Ent.drop ?_))
  · rintro k ⟨hk, hf⟩
    refine Wp.seq ?_
    refine Wp.region ?_
    refine s_lt rfl rfl rfl ?_
    refine WpL.nil ?_
    refine Wp.seq ?_
    refine Wp.condD rfl (fun h1 => ?_) (fun h1 => ?_)
    · have hlt : k < px.length := by omega
      have hpb := hr _ (List.getElem_mem hlt)
      refine Wp.skip ?_
      refine Wp.seq ?_
      refine Wp.block ?_
      refine Wp.seq ?_
      refine Wp.region ?_
      refine s_mv rfl rfl ?_
      refine s_as rfl rfl ?_
      refine WpL.nil ?_
      refine Wp.seq ?_
      refine Wp.region ?_
      refine s_mv rfl rfl ?_
      refine s_mv rfl rfl ?_
      refine s_mv rfl rfl ?_
      refine s_ixa k rfl rfl rfl hA (by first | exact Take.ent' (by repeat' constructor) | (repeat (first | exact Ent.refl _ | refine Ent.drop ?_))) rfl (by omega) (by rw [pxs_len]; omega) ?_
      refine s_ldx rfl rfl hA (by first | exact Take.ent' (by repeat' constructor) | (repeat (first | exact Ent.refl _ | refine Ent.drop ?_))) (pxs_at px hlt) ?_
      refine s_call (u := []) (c := [.pointer (some ⟨g, 0, none⟩)]) rfl rfl rfl rfl (by repeat' constructor) (OddR_spec g _ ch mx hpb.1 hpb.2) ?_
      rintro _ _ ⟨rfl, rfl⟩
      simp only [napp]
      refine WpL.nil ?_
      refine Wp.cond rfl (fun h2 => ?_) (fun h2 => ?_)
      · refine Wp.seq ?_
        refine Wp.region ?_
        refine s_mv rfl rfl ?_
        refine s_as rfl rfl ?_
        refine WpL.nil ?_
        refine Wp.ret ?_
        apply RetQ.mk
        · exact (Res.one rfl rfl)
        · exact ⟨_, rfl, ⟨fun _ hall => (by have := hall _ (List.getElem_mem hlt); rw [decide_eq_true this] at h2; cases h2), fun _ => (by omega)⟩, rfl⟩
        · first | exact Ent.refl _ | exact Ent.nil _ | exact Take.ent' (by repeat' constructor) | (repeat (first | exact Ent.refl _ | refine Ent.drop ?_))
      · refine Wp.skip ?_
        refine Wp.region ?_
        first | refine s_add rfl rfl rfl (w_i64 (by omega) (by omega)) ?_ | refine s_addw rfl rfl rfl ?_
        refine s_mv rfl rfl ?_
        refine WpL.nil ?_
        refine loopD.next (k + 1) ?_ ?_ (by repeat (first | exact Top.refl | refine Top.push rfl ?_ | refine Top.drop rfl ?_)) (by repeat (first | exact FrLe.nil | refine FrLe.cons rfl ?_)) ?_
        · refine ⟨by omega, fun p hp => ?_⟩
          rw [take_snoc' px hlt] at hp
          rcases List.mem_append.1 hp with hp | hp
          · exact hf p hp
          · have := List.mem_singleton.1 hp; subst this; simpa using h2
        · omega
        · first | exact Ent.refl _ | exact Ent.nil _ | exact Take.ent' (by repeat' constructor) | (repeat (first | exact Ent.refl _ | refine Ent.drop ?_))
    · refine Wp.exit ?_
      refine Wp.seq ?_
      refine Wp.region ?_
      refine s_as rfl rfl ?_
      refine WpL.nil ?_
      refine Wp.ret ?_
      apply RetQ.mk
      · exact (Res.one rfl rfl)
      · have hke : k = px.length := by omega
        rw [hke, List.take_length] at hf
        exact ⟨_, rfl, ⟨fun h => by omega, fun h => absurd hf h⟩, rfl⟩
      · first | exact Ent.refl _ | exact Ent.nil _ | exact Take.ent' (by repeat' constructor) | (repeat (first | exact Ent.refl _ | refine Ent.drop ?_))

theorem ContainsOddR_spec (A0 : HP) (a0 : Option Addr) (c0 : Nat) (px : List Int) (hA : RdsL [A0] a0 (pxs px)) (hr : ∀ p ∈ px, 0 ≤ p ∧ p < 18446744073709551616) (hl : px.length ≤ 140737488355328) (g : Nat) (ch mx : Int) : Fn Try.prog 19 #[.slice a0 px.length c0, .func (.func 16) #[] #[.pointer (some ⟨g, 0, none⟩)]] [blk g [.int .i64 ch, .int .i64 mx] 43, A0] (fun v l => v = .bool (decide (¬ ∀ p ∈ px, FitP p ch mx)) ∧ l = [blk g [.int .i64 ch, .int .i64 mx] 43, A0]) := by
  refine Fn.intro (vs := [.slice a0 px.length c0, .func (.func 16) #[] #[.pointer (some ⟨g, 0, none⟩)]]) Try.func19 rfl Try.ntmps19 rfl ?_
  refine Wp.seq ?_
  refine Wp.region ?_
  refine s_as rfl rfl ?_
  refine WpL.nil ?_
  refine Wp.seq ?_
  refine Wp.region ?_
  refine s_mv rfl rfl ?_
  refine s_mv rfl rfl ?_
  refine s_callf rfl rfl (by repeat' constructor) (IndexOddR_spec A0 a0 c0 px hA hr hl _ _ _) ?_
  rintro _ _ ⟨ri, rfl, hri, rfl⟩
  simp only [napp]
  refine s_ge rfl rfl rfl ?_
  refine s_as rfl rfl ?_
  refine WpL.nil ?_
  refine Wp.ret ?_
  apply RetQ.mk
  · exact (Res.one rfl rfl)
  · exact ⟨congrArg Value.bool (by rw [decide_eq_decide]; exact hri), rfl⟩
  · first | exact Ent.refl _ | exact Ent.nil _ | exact Take.ent' (by repeat' constructor) | (repeat (first | exact Ent.refl _ | refine Ent.drop ?_))

end Go.Proofs.Ytpoahaadnbdgcaa
