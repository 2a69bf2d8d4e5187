/- Walks. -/
import Derived.Test.YtpoahaadnbdgcaaRw
namespace Go.Proofs.Ytpoahaadnbdgcaa
open Go.RowKit Go.Shelf

theorem RawNew_spec (K : Int) (W : Nat) (H M : Int) (hR : RawH K (W : Int) H M) : Fn Try.prog 18 #[.agg #[.int .i64 K, .int .i64 (W : Int), .int .i64 H, .int .i64 M]] [] (fun v l => ∃ g g2 b0, (b0 : List Int).length = strd K W (wideM M) ∧ (∀ x ∈ b0, x = 0) ∧ v = .tuple #[.pointer (some ⟨g, 0, none⟩), .int .i64 0] ∧ l = [blk g [.int .i64 K, .int .i64 (W : Int), .int .i64 H, .int .i64 M, .slice (some ⟨g2, 0, none⟩) b0.length b0.length, .int .i64 0, .int .i64 0, .int .i64 0, .int .i64 0] 78, own 5 1 (some ⟨g2, 0, none⟩) b0.length b0.length (u8s b0)]) := by
  have hb := hR.bd
  have hch := chK_13 K
  have hw := wideM_or M
  have hsb := strd_bd (K := K) (W := W) hw (by omega) (by omega)
  refine Fn.intro (vs := [.agg #[.int .i64 K, .int .i64 (W : Int), .int .i64 H, .int .i64 M]]) Try.func18 rfl Try.ntmps18 rfl ?_
  refine Wp.seq ?_
  refine Wp.region ?_
  refine s_box rfl rfl rfl ?_
  intro g1
  refine s_as rfl rfl ?_
  refine s_as rfl rfl ?_
  refine WpL.nil ?_
  refine Wp.seq ?_
  refine Wp.seq ?_
  refine Wp.region ?_
  refine s_lda (vs := [_, _, _, _]) rfl rfl rfl (by rfl) ?_
  refine s_callf rfl rfl (by repeat' constructor) (May_spec _ _ _ _) ?_
  rintro _ _ ⟨rfl, rfl⟩
  simp only [napp]
  rw [decide_eq_true hR.1]
  refine s_not rfl rfl ?_
  refine s_mv rfl rfl ?_
  refine WpL.gon rfl rfl ?_
  refine s_lda (vs := [_, _, _, _]) rfl rfl rfl (by rfl) ?_
  refine WpL.gon rfl rfl ?_
  refine s_callf rfl rfl (by repeat' constructor) (Raw_spec _ _ _ _) ?_
  rintro _ _ ⟨rfl, rfl⟩
  simp only [napp]
  refine WpL.gon rfl rfl ?_
  refine s_notD rfl rfl ?_
  refine s_pickF rfl rfl rfl ?_
  refine WpL.nil ?_
  refine Wp.condDF rfl (fun hn => hn (by omega)) ?_
  refine Wp.skip ?_
  refine Wp.seq ?_
  apply Wp.drawGN (fB := [blk g1 [.int .i64 K, .int .i64 (W : Int), .int .i64 H, .int .i64 M] 32]) mixed [(3, false), (1, false)] (by kernel_rfl)
  apply GoR.segF [⟨0, 12, _, [], true⟩, ⟨1, 13, _, [], false⟩, ⟨2, 14, _, [1], false⟩] [] [1, 2] [16, 17, 2, 3, 12] ⟨_, by repeat' constructor⟩ rfl rfl rfl (by kernel_rfl) rfl rfl rfl
  · refine AllF.consR rfl rfl rfl rfl ?_ ?_
    · refine s_lda (vs := [_, _, _, _]) rfl rfl rfl (by rfl) ?_
      exact obN rfl
    refine AllF.cons rfl rfl rfl rfl ?_ ?_
    · refine s_lda (vs := [_, _, _, _]) rfl rfl rfl (by rfl) ?_
      exact obN rfl
    refine AllF.cons rfl rfl rfl rfl ?_ ?_
    · refine s_callf rfl rfl (by repeat' constructor) (Stride_spec _ _ _ _ hR) ?_
      rintro _ _ ⟨rfl, rfl⟩
      simp only [napp]
      exact WpL.nil ⟨rfl, rfl, rfl, by first | exact Ent.refl _ | exact Ent.nil _ | exact Take.ent' (by repeat' constructor) | (repeat (first | exact Ent.refl _ | refine Ent.drop ?_))⟩
    exact AllF.nil
  · refine s_mko (strd K W (wideM M)) rfl rfl rfl (by omega) (by omega) rfl ?_
    intro gB
    rw [u8s_zero]
    refine WpL.nil ⟨rfl, rfl, ?_⟩
    apply GoR.segF [⟨4, 16, _, [0, 3], false⟩] [0] [0, 4] [2, 3] ⟨_, by repeat' constructor⟩ rfl rfl rfl (by kernel_rfl) rfl rfl rfl
    · refine AllF.cons rfl rfl rfl rfl ?_ ?_
      · refine s_bd rfl rfl ?_
        exact obN rfl
      exact AllF.nil
    · refine s_box rfl rfl rfl ?_
      intro g2
      refine WpL.nil ⟨rfl, rfl, ?_⟩
      apply GoR.nil [⟨6, 2, _, [0, 1, 2, 3, 4, 5], false⟩, ⟨7, 3, _, [0, 1, 2, 3, 4, 5, 6], false⟩] ⟨_, by repeat' constructor⟩ rfl rfl
      · refine AllF.cons rfl rfl rfl rfl ?_ ?_
        · refine s_as rfl rfl ?_
          exact obN rfl
        refine AllF.cons rfl rfl rfl rfl ?_ ?_
        · refine s_as rfl rfl ?_
          exact obN rfl
        exact AllF.nil
      · refine Wp.ret ?_
        obtain ⟨b0, hb0e, hb0l⟩ : ∃ b0 : List Int, b0 = List.replicate (strd K W (wideM M)) 0 ∧ b0.length = strd K W (wideM M) := ⟨_, rfl, by simp⟩
        rw [← hb0e, ← hb0l]
        apply RetQ.mk
        · exact (Res.two rfl rfl rfl)
        · exact ⟨_, gB, b0, rfl, fun x hx => by rw [hb0e] at hx; exact (List.mem_replicate.1 hx).2, rfl, rfl⟩
        · first | exact Ent.refl _ | exact Ent.nil _ | exact Take.ent' (by repeat' constructor) | (repeat (first | exact Ent.refl _ | refine Ent.drop ?_))

theorem RawSample_spec (K : Int) (W : Nat) (H M : Int) (_hR : RawH K (W : Int) H M) (g : Nat) (a1 : Option Addr) (c1 : Nat) (bs : List Int) (hbs : ∀ x ∈ bs, 0 ≤ x ∧ x ≤ 255) (hbl : bs.length ≤ 100000) (n rows last e : Int) (i : Nat) (hi : (i + 1) * wideM M ≤ bs.length) : Fn Try.prog 52 #[.pointer (some ⟨g, 0, none⟩), .int .i64 (i : Int)] [blk g [.int .i64 K, .int .i64 (W : Int), .int .i64 H, .int .i64 M, .slice a1 bs.length c1, .int .i64 n, .int .i64 rows, .int .i64 last, .int .i64 e] 78, own 5 1 a1 c1 bs.length (u8s bs)] (fun v l => v = .int .i64 (smpAt (wideM M) bs i) ∧ l = [blk g [.int .i64 K, .int .i64 (W : Int), .int .i64 H, .int .i64 M, .slice a1 bs.length c1, .int .i64 n, .int .i64 rows, .int .i64 last, .int .i64 e] 78, own 5 1 a1 c1 bs.length (u8s bs)]) := by
  have hw := wideM_or M
  refine Fn.intro (vs := [.pointer (some ⟨g, 0, none⟩), .int .i64 (i : Int)]) Try.func52 rfl Try.ntmps52 rfl ?_
  refine Wp.seq ?_
  refine Wp.region ?_
  refine s_as rfl rfl ?_
  refine WpL.nil ?_
  refine Wp.seq ?_
  refine Wp.seq ?_
  refine Wp.region ?_
  refine s_mv rfl rfl ?_
  refine s_nc rfl rfl ?_
  refine s_fa (o2 := 0) rfl rfl rfl ?_
  refine s_lda (vs := [_, _, _, _]) rfl rfl rfl (by rfl) ?_
  refine s_callf rfl rfl (by repeat' constructor) (wide_spec _ _ _ _) ?_
  rintro _ _ ⟨rfl, rfl⟩
  simp only [napp]
  refine s_eq rfl rfl rfl ?_
  refine WpL.nil ?_
  refine Wp.condD rfl (fun h0 => ?_) (fun h0 => ?_)
  · have hw1 : wideM M = 1 := by omega
    rw [hw1] at hi
    have hlt : i < bs.length := by omega
    have hx := hbs _ (List.getElem_mem hlt)
    refine Wp.seq ?_
    refine Wp.region ?_
    refine s_mv rfl rfl ?_
    refine s_nc rfl rfl ?_
    refine s_fa (o2 := 4) rfl rfl rfl ?_
    refine s_ld rfl rfl (by rfl) ?_
    refine s_mv rfl rfl ?_
    refine s_ixa i rfl rfl rfl RdsL.own (by first | exact Take.ent' (by repeat' constructor) | (repeat (first | exact Ent.refl _ | refine Ent.drop ?_))) rfl (by omega) (by rw [u8s_len]; omega) ?_
    refine s_ldx rfl rfl RdsL.own (by first | exact Take.ent' (by repeat' constructor) | (repeat (first | exact Ent.refl _ | refine Ent.drop ?_))) (u8s_at bs hlt) ?_
    first | refine s_cvi rfl Try.underlying5 rfl (w_i64 (by omega) (by omega)) ?_ | refine s_cviw rfl Try.underlying5 rfl ?_
    refine s_as rfl rfl ?_
    refine WpL.nil ?_
    refine Wp.ret ?_
    apply RetQ.mk
    · exact (Res.one rfl rfl)
    · exact ⟨by rw [hw1]; unfold smpAt; rw [if_pos rfl, List.getElem?_eq_getElem hlt]; rfl, rfl⟩
    · first | exact Ent.refl _ | exact Ent.nil _ | exact Take.ent' (by repeat' constructor) | (repeat (first | exact Ent.refl _ | refine Ent.drop ?_))
  · have hw2 : wideM M = 2 := by omega
    rw [hw2] at hi
    have hlt : 2 * i < bs.length := by omega
    have hlt2 : 2 * i + 1 < bs.length := by omega
    have hx := hbs _ (List.getElem_mem hlt)
    have hx2 := hbs _ (List.getElem_mem hlt2)
    refine Wp.skip ?_
    refine Wp.seq ?_
    apply Wp.draw mixed [⟨19, _, []⟩, ⟨20, _, [0]⟩, ⟨21, _, [1]⟩, ⟨22, _, [2]⟩, ⟨23, _, []⟩, ⟨24, _, [4]⟩, ⟨25, _, [3, 5]⟩, ⟨26, _, [6]⟩, ⟨27, _, [7]⟩, ⟨28, _, [8]⟩, ⟨29, _, []⟩, ⟨30, _, [10]⟩, ⟨31, _, [11]⟩, ⟨32, _, [12]⟩, ⟨33, _, []⟩, ⟨34, _, [14]⟩, ⟨35, _, [15]⟩, ⟨36, _, [13, 16]⟩, ⟨37, _, [17]⟩, ⟨38, _, [18]⟩, ⟨39, _, [9, 19]⟩, ⟨4, _, [20, 0, 1, 2, 3, 4, 5, 6, 7, 8, 9, 10, 11, 12, 13, 14, 15, 16, 17, 18, 19]⟩] rfl
    · refine AllObs.mk ?_ ?_
      · refine s_mv rfl rfl ?_
        exact obN rfl
      refine AllObs.mk ?_ ?_
      · refine s_nc rfl rfl ?_
        exact obN rfl
      refine AllObs.mk ?_ ?_
      · refine s_fa (o2 := 4) rfl rfl rfl ?_
        exact obN rfl
      refine AllObs.mk ?_ ?_
      · refine s_ld rfl rfl (by rfl) ?_
        exact obN rfl
      refine AllObs.mk ?_ ?_
      · refine s_mv rfl rfl ?_
        exact obN rfl
      refine AllObs.mk ?_ ?_
      · first | refine s_mul rfl rfl rfl (w_i64 (by omega) (by omega)) ?_ | refine s_mulw rfl rfl rfl ?_
        exact obN rfl
      refine AllObs.mk ?_ ?_
      · refine s_ixa (2 * i) rfl rfl rfl RdsL.own (by first | exact Take.ent' (by repeat' constructor) | (repeat (first | exact Ent.refl _ | refine Ent.drop ?_))) (by omega) (by omega) (by rw [u8s_len]; omega) ?_
        exact obN rfl
      refine AllObs.mk ?_ ?_
      · refine s_ldx rfl rfl RdsL.own (by first | exact Take.ent' (by repeat' constructor) | (repeat (first | exact Ent.refl _ | refine Ent.drop ?_))) (u8s_at bs hlt) ?_
        exact obN rfl
      refine AllObs.mk ?_ ?_
      · first | refine s_cvi rfl Try.underlying5 rfl (w_i64 (by omega) (by omega)) ?_ | refine s_cviw rfl Try.underlying5 rfl ?_
        exact obN rfl
      refine AllObs.mk ?_ ?_
      · refine s_shl 256 rfl rfl rfl (by decide) (w_i64 (by omega) (by omega)) ?_
        exact obN rfl
      refine AllObs.mk ?_ ?_
      · refine s_mv rfl rfl ?_
        exact obN rfl
      refine AllObs.mk ?_ ?_
      · refine s_nc rfl rfl ?_
        exact obN rfl
      refine AllObs.mk ?_ ?_
      · refine s_fa (o2 := 4) rfl rfl rfl ?_
        exact obN rfl
      refine AllObs.mk ?_ ?_
      · refine s_ld rfl rfl (by rfl) ?_
        exact obN rfl
      refine AllObs.mk ?_ ?_
      · refine s_mv rfl rfl ?_
        exact obN rfl
      refine AllObs.mk ?_ ?_
      · first | refine s_mul rfl rfl rfl (w_i64 (by omega) (by omega)) ?_ | refine s_mulw rfl rfl rfl ?_
        exact obN rfl
      refine AllObs.mk ?_ ?_
      · first | refine s_add rfl rfl rfl (w_i64 (by omega) (by omega)) ?_ | refine s_addw rfl rfl rfl ?_
        exact obN rfl
      refine AllObs.mk ?_ ?_
      · refine s_ixa (2 * i + 1) rfl rfl rfl RdsL.own (by first | exact Take.ent' (by repeat' constructor) | (repeat (first | exact Ent.refl _ | refine Ent.drop ?_))) (by omega) (by omega) (by rw [u8s_len]; omega) ?_
        exact obN rfl
      refine AllObs.mk ?_ ?_
      · refine s_ldx rfl rfl RdsL.own (by first | exact Take.ent' (by repeat' constructor) | (repeat (first | exact Ent.refl _ | refine Ent.drop ?_))) (u8s_at bs hlt2) ?_
        exact obN rfl
      refine AllObs.mk ?_ ?_
      · first | refine s_cvi rfl Try.underlying5 rfl (w_i64 (by omega) (by omega)) ?_ | refine s_cviw rfl Try.underlying5 rfl ?_
        exact obN rfl
      refine AllObs.mk ?_ ?_
      · refine s_or (bs[2 * i]'hlt) 8 rfl rfl rfl rfl hx.1 (by simp only [IntKind.bits]; omega) hx2.1 (by omega) (by decide) (w_i64 (by omega) (by omega)) ?_
        exact obN rfl
      refine AllObs.mk ?_ ?_
      · refine s_as rfl rfl ?_
        exact obN rfl
      exact AllObs.nil
    · refine Wp.ret ?_
      apply RetQ.mk
      · exact (Res.one rfl rfl)
      · exact ⟨by rw [hw2]; unfold smpAt; rw [if_neg (by decide), List.getElem?_eq_getElem hlt, List.getElem?_eq_getElem hlt2]; rfl, rfl⟩
      · first | exact Ent.refl _ | exact Ent.nil _ | exact Take.ent' (by repeat' constructor) | (repeat (first | exact Ent.refl _ | refine Ent.drop ?_))

end Go.Proofs.Ytpoahaadnbdgcaa
