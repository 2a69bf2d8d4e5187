/- Walks. -/
import Derived.Test.YtoiecgmnnjipfaaRef
namespace Go.Proofs.Ytoiecgmnnjipfaa
open Go.RowKit Go.Shelf

theorem rRead_spec (s : ByteArray) (hs : s.size ≤ 900000000000) (K W H M : Int) : Fn Try.prog 13 #[.string s, .agg #[.int .i64 K, .int .i64 W, .int .i64 H, .int .i64 M]] [] (fun v l => ∃ out i x a c, (out, i, x) = readS K W H M (bsOf s) ∧ v = .tuple #[.slice a out.length c, .int .i64 i, .int .i64 x] ∧ l = [own 62 1 a c (out).length (pxs out)]) := by
  refine Fn.intro (vs := [.string s, .agg #[.int .i64 K, .int .i64 W, .int .i64 H, .int .i64 M]]) Try.func13 rfl Try.ntmps13 rfl ?_
  refine Wp.seq ?_
  refine Wp.region ?_
  refine s_box rfl rfl rfl ?_
  intro g1
  refine s_as rfl rfl ?_
  refine s_as rfl rfl ?_
  refine s_as rfl rfl ?_
  refine WpL.nil ?_
  refine Wp.seq ?_
  refine Wp.region ?_
  refine s_lda (vs := [_, _, _, _]) rfl rfl rfl (by rfl) ?_
  refine s_callf rfl rfl (by repeat' constructor) (rMay_spec _ _ _ _) ?_
  rintro _ _ ⟨rfl, rfl⟩
  simp only [napp]
  refine s_as rfl rfl ?_
  refine WpL.nil ?_
  refine Wp.seq ?_
  refine Wp.seq ?_
  refine Wp.region ?_
  refine s_mv rfl rfl ?_
  refine s_notD rfl rfl ?_
  refine WpL.nil ?_
  refine Wp.condD rfl (fun hP => ?_) (fun hP => ?_)
  · refine Wp.seq ?_
    refine Wp.region ?_
    refine s_as rfl rfl ?_
    refine s_as rfl rfl ?_
    refine s_as rfl rfl ?_
    refine WpL.nil ?_
    refine Wp.ret ?_
    apply RetQ.mk
    · exact (Res.three rfl rfl rfl rfl)
    · exact ⟨[], _, _, none, 0, (if_neg hP).symm, rfl, rfl⟩
    · exact Ent.own_nil (Ent.nil _)
  · have hP := Classical.not_not.1 hP
    have hP3 := hP
    unfold PlainH MayH at hP3
    refine Wp.skip ?_
    refine Wp.seq ?_
    refine Wp.region ?_
    refine s_lda (vs := [_, _, _, _]) rfl rfl rfl (by rfl) ?_
    refine s_callf rfl rfl (by repeat' constructor) (rNew_spec _ _ _ _) ?_
    rintro _ _ ⟨rfl, rfl⟩
    simp only [napp]
    refine s_al rfl ?_
    intro gR
    refine s_sta rfl rfl rfl (by rfl) rfl ?_
    refine WpL.nil ?_
    refine Wp.seq ?_
    refine Wp.region ?_
    refine s_as rfl rfl ?_
    refine WpL.nil ?_
    refine Wp.seq ?_
    refine Wp.seq ?_
    refine Wp.region ?_
    refine s_as rfl rfl ?_
    refine WpL.nil ?_
    refine Wp.block ?_
    refine Wp.loopD (σ := RdX) (fun x => x.k ≤ s.size ∧ RInv (chK K) x.k x.acc.length ⟨x.n, x.one, x.row, x.rows, x.last, x.e⟩ ∧ x.last = 0 ∧ readL K W H M ((bsOf s).drop x.k) (x.k : Int) ⟨x.n, x.one, x.row, x.rows, x.last, x.e⟩ x.acc = readS K W H M (bsOf s) ∧ RGood K W ⟨x.n, x.one, x.row, x.rows, x.last, x.e⟩) [4, 5, 6, 9, 10, 11, 12, 21, 22, 23, 24, 25, 26, 27, 28, 29, 30, 31, 32, 33, 34, 35, 36, 37, 38, 39, 40, 41, 42, 43, 44, 45, 46, 47, 48, 49] (fun x => [(10, .int .i64 (x.k : Int)), (9, .slice x.a3 x.acc.length x.c3)]) (fun x => [blk gR [.int .i64 K, .int .i64 W, .int .i64 H, .int .i64 M, .int .i64 x.n, .slice x.a1 x.one.length x.c1, .slice x.a2 x.row.length x.c2, .int .i64 x.rows, .int .i64 x.last, .int .i64 x.e] 49, own 3 1 x.a1 x.c1 x.one.length (ints x.one), own 62 1 x.a2 x.c2 x.row.length (pxs x.row), own 62 1 x.a3 x.c3 x.acc.length (pxs x.acc)]) (fun x => s.size - x.k) ⟨0, -1, [], [], 0, 0, 0, [], none, 0, none, 0, none, 0⟩ ?_ (by repeat (first | exact FrLe.nil | refine FrLe.cons rfl ?_)) ?_ ?_
    · exact ⟨Nat.zero_le _, ⟨by simp; have := chK_pos K; omega, by simp, by simp, by simp⟩, rfl, (if_pos hP).symm, by decide, fun _ => rfl, by simp only [List.length_nil]; omega⟩
    · exact (Ent.own_nil (T := 3) (s := 1) (Ent.refl _)).trans ((Ent.own_nil (T := 62) (s := 1) (Ent.refl _)).trans ((Ent.own_nil (T := 62) (s := 1) (Ent.refl _)).trans (Take.ent' (by repeat' constructor))))
    · rintro ⟨k, n, one, row, rows, last, e, acc, a1, c1, a2, c2, a3, c3⟩ ⟨hk, hinv, hl, hR, hgd⟩
      dsimp only at hk hinv hl hR hgd ⊢
      have hch := chK_pos K
      have hin := hinv
      obtain ⟨hi1, hi2, hi3, hi4⟩ := hin
      dsimp only at hi1 hi2 hi3 hi4
      have hg2 := hgd
      obtain ⟨hgn, hgk, hgr⟩ := hg2
      dsimp only at hgn hgk hgr
      refine Wp.seq ?_
      refine Wp.seq ?_
      refine Wp.region ?_
      refine s_mv rfl rfl ?_
      refine s_mv rfl rfl ?_
      refine s_lens rfl Try.underlying9 rfl ?_
      refine s_lt rfl rfl rfl ?_
      refine WpL.nil ?_
      refine Wp.condD rfl (fun h2 => ?_) (fun h2 => ?_)
      · have hlt : k < s.size := by omega
        refine Wp.skip ?_
        refine Wp.seq ?_
        refine Wp.block ?_
        refine Wp.seq ?_
        apply Wp.drawGA mixed 8 [(4, false), (3, true)] rfl rfl (by kernel_rfl)
        apply GoR.segF [⟨0, 28, _, [], false⟩, ⟨1, 29, _, [], false⟩, ⟨2, 30, _, [], false⟩, ⟨3, 31, _, [1, 2], false⟩] [] [0, 1, 2, 3] [27, 33, 34, 11, 12] rfl rfl rfl (by kernel_rfl) rfl rfl rfl
        · refine AllF.cons rfl rfl rfl rfl ?_ ?_
          · refine s_lda (vs := [_, _, _, _, _, _, _, _, _, _]) rfl rfl rfl (by rfl) ?_
            exact obN rfl
          refine AllF.cons rfl rfl rfl rfl ?_ ?_
          · refine s_mv rfl rfl ?_
            exact obN rfl
          refine AllF.cons rfl rfl rfl rfl ?_ ?_
          · refine s_mv rfl rfl ?_
            exact obN rfl
          refine AllF.cons rfl rfl rfl rfl ?_ ?_
          · refine s_ixs rfl Try.underlying9 rfl rfl (by omega) (by simp; omega) ?_
            exact obN rfl
          exact AllF.nil
        · refine s_callf rfl rfl (by repeat' constructor) (rPut_spec _ _ _ _ _ _ _ _ _ _ _ _ _ _ _ (by omega) (u8_lt _) (by omega) (by omega) (by omega) (by omega) (by omega) (by omega) (by omega) (by omega) (by omega) (by omega) (by omega)) ?_
          rintro _ _ ⟨n2, one2, row2, rows2, last2, e2, out, a1, c1, a2, c2, a3, c3, hs2, rfl, rfl⟩
          simp only [napp]
          have hinv2 := putR_inv (M := M) (W := W) (H := H) (c := ((s[k]'hlt).toNat : Int)) hinv
          have hgd2 := putR_good (M := M) (H := H) (c := ((s[k]'hlt).toNat : Int)) (by omega) hgd
          have hs3 : (({ n := n2, one := one2, row := row2, rows := rows2, last := last2, e := e2 } : RS), out) = putR K W H M ⟨n, one, row, rows, last, e⟩ ((s[k]'hlt).toNat : Int) := hs2
          rw [← hs3] at hinv2 hgd2
          rw [bsOf_drop hlt, readL, ← hs3] at hR
          dsimp only at hR
          have hol := hinv2.2.1
          dsimp only at hol
          have hla := putR_last (K := K) (W := W) (H := H) (M := M) (c := ((s[k]'hlt).toNat : Int)) (s := ⟨n, one, row, rows, last, e⟩) hl
          rw [← hs3] at hla
          dsimp only at hla
          refine WpL.nil ⟨rfl, rfl, ?_⟩
          apply GoR.segT [⟨5, 27, _, [4], false⟩, ⟨6, 33, _, [5], false⟩, ⟨7, 34, _, [5], true⟩] [] [5, 6] [12, 34] rfl rfl rfl (by kernel_rfl) rfl rfl rfl rfl
          · refine AllF.cons rfl rfl rfl rfl ?_ ?_
            · refine s_mv rfl rfl ?_
              exact obN rfl
            refine AllF.cons rfl rfl rfl rfl ?_ ?_
            · refine s_ext rfl rfl rfl ?_
              exact obN rfl
            refine AllF.consR rfl rfl rfl rfl ?_ ?_
            · refine s_ext rfl rfl rfl ?_
              exact obN rfl
            exact AllF.nil
          · intro g3
            refine s_sta rfl rfl rfl (by rfl) rfl ?_
            refine WpL.nil ⟨rfl, rfl, ?_⟩
            apply GoR.nil [⟨10, 12, _, [0, 1, 2, 3, 4, 5, 6, 7, 8, 9], false⟩] rfl rfl
            · refine AllF.cons rfl rfl rfl rfl ?_ ?_
              · refine s_as rfl rfl ?_
                exact obN rfl
              exact AllF.nil
            · refine Wp.seq ?_
              refine Wp.region ?_
              refine s_lda (vs := [_, _, _, _, _, _, _, _, _, _]) rfl rfl rfl (by rfl) ?_
              refine s_sta rfl rfl rfl (by rfl) rfl ?_
              refine WpL.nil ?_
              refine Wp.seq ?_
              refine Wp.region ?_
              refine s_mv rfl rfl ?_
              refine s_mv rfl rfl ?_
              refine s_appo rfl rfl rfl (by repeat' constructor) (by rfl) (by rfl) (pxs_one _) (by omega) (by omega) ?_
              intro a38 c38
              rw [pxs_app, show acc.length + out.length = (acc ++ out).length from by simp]
              refine s_as rfl rfl ?_
              refine WpL.nil ?_
              refine Wp.seq ?_
              refine Wp.seq ?_
              refine Wp.region ?_
              refine s_fa (o2 := 8) rfl rfl rfl ?_
              refine s_ld rfl rfl (by rfl) ?_
              refine s_eq rfl rfl rfl ?_
              refine WpL.nil ?_
              refine Wp.condD rfl (fun h3 => ?_) (fun h3 => ?_)
              · refine Wp.seq ?_
                refine Wp.region ?_
                refine s_mv rfl rfl ?_
                refine s_mv rfl rfl ?_
                first | refine s_add rfl rfl rfl (w_i64 (by omega) (by omega)) ?_ | refine s_addw rfl rfl rfl ?_
                refine s_as rfl rfl ?_
                refine s_as rfl rfl ?_
                refine s_as rfl rfl ?_
                refine WpL.nil ?_
                refine Wp.ret ?_
                apply RetQ.mk
                · exact (Res.three rfl rfl rfl rfl)
                · exact ⟨_, _, _, a38, c38, (if_pos h3).symm.trans hR, rfl, rfl⟩
                · first | exact Ent.refl _ | exact Ent.nil _ | exact Take.ent' (by repeat' constructor) | (repeat (first | exact Ent.refl _ | refine Ent.drop ?_))
              · refine Wp.skip ?_
                refine Wp.seq ?_
                refine Wp.region ?_
                refine s_fa (o2 := 8) rfl rfl rfl ?_
                refine s_ld rfl rfl (by rfl) ?_
                refine s_eq rfl rfl rfl ?_
                refine WpL.nil ?_
                refine Wp.condD rfl (fun h4 => ?_) (fun h4 => ?_)
                · refine Wp.seq ?_
                  apply Wp.draw mixed [⟨48, _, []⟩, ⟨49, _, [0]⟩, ⟨4, _, []⟩, ⟨5, _, [2]⟩, ⟨6, _, [1, 3, 0, 2]⟩] rfl
                  · refine AllObs.mk ?_ ?_
                    · refine s_fa (o2 := 9) rfl rfl rfl ?_
                      exact obN rfl
                    refine AllObs.mk ?_ ?_
                    · refine s_ld rfl rfl (by rfl) ?_
                      exact obN rfl
                    refine AllObs.mk ?_ ?_
                    · refine s_as rfl rfl ?_
                      exact obN rfl
                    refine AllObs.mk ?_ ?_
                    · refine s_as rfl rfl ?_
                      exact obN rfl
                    refine AllObs.mk ?_ ?_
                    · refine s_as rfl rfl ?_
                      exact obN rfl
                    exact AllObs.nil
                  · refine Wp.ret ?_
                    apply RetQ.mk
                    · exact (Res.three rfl rfl rfl rfl)
                    · exact ⟨[], _, _, none, 0, ((if_neg h3).trans (if_pos h4)).symm.trans hR, rfl, rfl⟩
                    · exact Ent.own_nil (Ent.nil _)
                · refine Wp.skip ?_
                  refine Wp.region ?_
                  refine s_mv rfl rfl ?_
                  first | refine s_add rfl rfl rfl (w_i64 (by omega) (by omega)) ?_ | refine s_addw rfl rfl rfl ?_
                  refine s_as rfl rfl ?_
                  refine WpL.nil ?_
                  have hR2 := (((if_neg h3).trans (if_neg h4)).symm.trans hR)
                  refine loopD.next (⟨k + 1, n2, one2, row2, rows2, last2, e2, acc ++ out, a1, c1, a2, c2, a38, c38⟩ : RdX) ?_ ?_ (by repeat (first | exact Top.refl | refine Top.push rfl ?_ | refine Top.drop rfl ?_)) (by repeat (first | exact FrLe.nil | refine FrLe.cons rfl ?_)) ?_
                  · exact ⟨by simp only; omega, by simp only [List.length_append]; exact hinv2, by simp only; omega, hR2, hgd2⟩
                  · simp only; omega
                  · first | exact Ent.refl _ | exact Ent.nil _ | exact Take.ent' (by repeat' constructor) | (repeat (first | exact Ent.refl _ | refine Ent.drop ?_))
      · refine Wp.exit ?_
        refine Wp.seq ?_
        refine Wp.region ?_
        refine s_lda (vs := [_, _, _, _, _, _, _, _, _, _]) rfl rfl rfl (by rfl) ?_
        refine s_callf rfl rfl (by repeat' constructor) (rEnd_spec _ _ _ _ _ _ _ _ _ _ _ _ _ _ (by omega) (by omega) (by omega) (by omega) (by omega) (by omega) (by omega) (by omega) (by omega) (by omega) (by omega)) ?_
        rintro _ _ ⟨n2, one2, row2, rows2, last2, e2, out, a1, c1, a2, c2, a3, c3, hs2, rfl, rfl⟩
        simp only [napp]
        have hol := endR_out (W := W) (H := H) hinv
        rw [← hs2] at hol
        dsimp only at hol
        rw [List.drop_eq_nil_of_le (by rw [bsOf_len]; omega), readL, ← hs2] at hR
        dsimp only at hR
        refine s_mv rfl rfl ?_
        refine s_ext rfl rfl rfl ?_
        refine s_ext rfl rfl rfl ?_
        refine s_al rfl ?_
        intro g4
        refine s_sta rfl rfl rfl (by rfl) rfl ?_
        refine s_as rfl rfl ?_
        refine WpL.nil ?_
        refine Wp.seq ?_
        refine Wp.seq ?_
        refine Wp.region ?_
        refine s_fa (o2 := 8) rfl rfl rfl ?_
        refine s_ld rfl rfl (by rfl) ?_
        refine s_eq rfl rfl rfl ?_
        refine WpL.nil ?_
        refine Wp.condD rfl (fun h5 => ?_) (fun h5 => ?_)
        · refine Wp.seq ?_
          apply Wp.draw mixed [⟨58, _, []⟩, ⟨59, _, [0]⟩, ⟨4, _, []⟩, ⟨5, _, [2]⟩, ⟨6, _, [1, 3, 0, 2]⟩] rfl
          · refine AllObs.mk ?_ ?_
            · refine s_fa (o2 := 9) rfl rfl rfl ?_
              exact obN rfl
            refine AllObs.mk ?_ ?_
            · refine s_ld rfl rfl (by rfl) ?_
              exact obN rfl
            refine AllObs.mk ?_ ?_
            · refine s_as rfl rfl ?_
              exact obN rfl
            refine AllObs.mk ?_ ?_
            · refine s_as rfl rfl ?_
              exact obN rfl
            refine AllObs.mk ?_ ?_
            · refine s_as rfl rfl ?_
              exact obN rfl
            exact AllObs.nil
          · refine Wp.ret ?_
            apply RetQ.mk
            · exact (Res.three rfl rfl rfl rfl)
            · exact ⟨[], _, _, none, 0, (if_pos h5).symm.trans hR, rfl, rfl⟩
            · exact Ent.own_nil (Ent.nil _)
        · refine Wp.skip ?_
          refine Wp.seq ?_
          refine Wp.region ?_
          refine s_mv rfl rfl ?_
          refine s_mv rfl rfl ?_
          refine s_appo rfl rfl rfl (by repeat' constructor) (by rfl) (by rfl) (pxs_one _) (by omega) (by omega) ?_
          intro a62 c62
          rw [pxs_app, show acc.length + out.length = (acc ++ out).length from by simp]
          refine s_mv rfl rfl ?_
          refine s_lens rfl Try.underlying9 rfl ?_
          refine s_as rfl rfl ?_
          refine s_as rfl rfl ?_
          refine s_as rfl rfl ?_
          refine WpL.nil ?_
          refine Wp.ret ?_
          apply RetQ.mk
          · exact (Res.three rfl rfl rfl rfl)
          · exact ⟨_, _, _, a62, c62, ((if_neg h5).symm.trans hR).trans rfl, by rw [show k = s.size by omega], rfl⟩
          · first | exact Ent.refl _ | exact Ent.nil _ | exact Take.ent' (by repeat' constructor) | (repeat (first | exact Ent.refl _ | refine Ent.drop ?_))

end Go.Proofs.Ytoiecgmnnjipfaa
