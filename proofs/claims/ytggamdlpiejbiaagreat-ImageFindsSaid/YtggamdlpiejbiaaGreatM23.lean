/- Walks and plain laws, a part of the proof of ImageFinds: every input that the law's guards let in, no condition beside. -/
import Derived.Test.YtggamdlpiejbiaaGreatM22
namespace Go.Proofs.YtggamdlpiejbiaaGreat
open Go.RowKit Go.Shelf

set_option maxHeartbeats 2000000 in
theorem lFinds_spec (A0 : HP) (g : GS) (hg1 : ∀ x ∈ g.zs, -9223372036854775808 ≤ x ∧ x < 9223372036854775808) (hg2 : g.zs.length ≤ 9223372036854775807) (hg3 : RdsL [A0] g.a (QU g.zs)) (hg4 : -9223372036854775808 ≤ g.mx ∧ g.mx < 9223372036854775808) (hg5 : -9223372036854775808 ≤ g.w ∧ g.w < 9223372036854775808) (hg6 : -9223372036854775808 ≤ g.h ∧ g.h < 9223372036854775808) (b : GS) (hb1 : ∀ x ∈ b.zs, -9223372036854775808 ≤ x ∧ x < 9223372036854775808) (hb2 : b.zs.length ≤ 9223372036854775807) (hb3 : RdsL [A0] b.a (QU b.zs)) (_hb4 : -9223372036854775808 ≤ b.mx ∧ b.mx < 9223372036854775808) (hb5 : -9223372036854775808 ≤ b.w ∧ b.w < 9223372036854775808) (hb6 : -9223372036854775808 ≤ b.h ∧ b.h < 9223372036854775808) : Fn Tryz.prog 12 #[.agg (gC g).toArray, .agg #[.bool b.three, .int .i64 b.mx, .int .i64 b.w, .int .i64 b.h, .slice b.a b.zs.length b.c]] [A0] (fun v l => v = .bool true ∧ l = [A0]) := by
 refine Qk (vs := [.agg (gC g).toArray, .agg #[.bool b.three, .int .i64 b.mx, .int .i64 b.w, .int .i64 b.h, .slice b.a b.zs.length b.c]]) Tryz.func12 rfl Tryz.ntmps12 rfl (Qb (Qa (QR rfl rfl rfl ?_)))
 intro gA
 refine QR rfl rfl rfl ?_
 intro gB
 refine Qe rfl rfl (WpL.nil (Qb (Qa ?_)))
 refine Qy (vs := [_, _, _, _, _]) rfl rfl rfl (by rfl) ?_
 refine Qh rfl rfl (by repeat' constructor) (Zu A0 g.three g.mx g.w g.h g.a g.c g.zs hg1 hg2 hg3 hg4 hg5 hg6 8 (by omega)) ?_
 rintro _ _ ⟨m, a1, c1, hgm, rfl, rfl⟩
 simp only [Qr]
 refine YR (T := 92) (s := 1) (a := a1) (c := c1) (by repeat' constructor) (fun hgmc => ?_)
 refine XV rfl ?_
 intro gM
 refine Q1 rfl rfl rfl (by rfl) rfl ?_
 refine WpL.nil (Qb (Qa (Qj (o2 := 0) rfl rfl rfl (Qn rfl rfl (by rfl) ?_))))
 refine Qj (o2 := 0) rfl rfl rfl (QW rfl rfl rfl (WpL.nil (Qb (Qa (Qj (o2 := 1) rfl rfl rfl (Qn rfl rfl (by rfl) ?_))))))
 refine Qj (o2 := 1) rfl rfl rfl (QW rfl rfl rfl (WpL.nil (Qb (Qa ?_))))
 refine Qy (vs := [_, _, _, _, _]) rfl rfl rfl (by rfl) ?_
 refine Qh rfl rfl (by repeat' constructor) (Zu A0 g.three g.mx b.w b.h b.a b.c b.zs hb1 hb2 hb3 hg4 hb5 hb6 3 (by omega)) ?_
 rintro _ _ ⟨o, a2, c2, hgo, rfl, rfl⟩
 simp only [Qr]
 refine YR (T := 92) (s := 1) (a := a2) (c := c2) (by repeat' constructor) (fun hgoc => ?_)
 refine XV rfl ?_
 intro gO
 refine Q1 rfl rfl rfl (by rfl) rfl ?_
 refine WpL.nil (Qb (Qa (Qj (o2 := 1) rfl rfl rfl (Qn rfl rfl (by rfl) ?_))))
 refine s_remt rfl rfl rfl (by omega) ?_
 have hm1 := Int.tmod_lt_of_pos g.mx (show (0 : Int) < 5 by omega)
 have hm2 := Int.lt_tmod_of_pos g.mx (show (0 : Int) < 5 by omega)
 refine QD rfl rfl rfl (Qs (by omega) (by omega)) ?_
 refine Qj (o2 := 1) rfl rfl rfl (QW rfl rfl rfl (WpL.nil (Qb (Qa ?_))))
 refine Qy (vs := [_, _, _, _, _]) rfl rfl rfl (by rfl) ?_
 refine Qh rfl rfl (by repeat' constructor) (Zu A0 g.three (g.mx.tmod 5 + 1) b.w b.h b.a b.c b.zs hb1 hb2 hb3 (by omega) hb5 hb6 3 (by omega)) ?_
 rintro _ _ ⟨p, a3, c3, hgp, rfl, rfl⟩
 simp only [Qr]
 refine YR (T := 92) (s := 1) (a := a3) (c := c3) (by repeat' constructor) (fun hgpc => ?_)
 refine XV rfl ?_
 intro gP
 refine Q1 rfl rfl rfl (by rfl) rfl ?_
 refine WpL.nil (Qb (Qa ?_))
 refine Qy (vs := [_, _, _, _, _]) rfl rfl rfl (by rfl) ?_
 refine Qy (vs := [_, _, _, _, _]) rfl rfl rfl (by rfl) ?_
 refine s_bsA2 (s := 5) rfl rfl rfl rfl rfl rfl rfl rfl ?_
 intro gS
 refine Qe rfl rfl (WpL.nil (QT (gr := [(5, _), (6, _), (7, _), (8, _)]) (FrLe.cons rfl (FrLe.cons rfl (FrLe.cons rfl (FrLe.cons rfl FrLe.nil)))) ?_))
 refine Qb (Qb (Qa (Qe rfl rfl (WpL.nil (Wp.block ?_)))))
 refine Wp.ent (m := [QB gM [.int .i64 m.c, .int .i64 m.m, .int .i64 m.w, .int .i64 m.h, .slice a1 m.px.length c1] 71, QB gO [.int .i64 o.c, .int .i64 o.m, .int .i64 o.w, .int .i64 o.h, .slice a2 o.px.length c2] 71, QB gP [.int .i64 p.c, .int .i64 p.m, .int .i64 p.w, .int .i64 p.h, .slice a3 p.px.length c3] 71, QB gS (mCs [(o, a2, c2), (p, a3, c3)]) 71, many [QI 92 1 a1 c1 m.px.length (Q7 m.px), QI 92 1 a2 c2 o.px.length (Q7 o.px), QI 92 1 a3 c3 p.px.length (Q7 p.px)], A0]) (Ent.trans (Take.ent' (pre := [QB gM [.int .i64 m.c, .int .i64 m.m, .int .i64 m.w, .int .i64 m.h, .slice a1 m.px.length c1] 71, QB gO [.int .i64 o.c, .int .i64 o.m, .int .i64 o.w, .int .i64 o.h, .slice a2 o.px.length c2] 71, QB gP [.int .i64 p.c, .int .i64 p.m, .int .i64 p.w, .int .i64 p.h, .slice a3 p.px.length c3] 71, QB gS (mCs [(o, a2, c2), (p, a3, c3)]) 71, QI 92 1 a1 c1 m.px.length (Q7 m.px), QI 92 1 a2 c2 o.px.length (Q7 o.px), QI 92 1 a3 c3 p.px.length (Q7 p.px), A0]) (by repeat' constructor)) (Ent.cons (Ent.cons (Ent.cons (Ent.cons (Ent.many (Ent.refl _))))))) ?_
 have hmz := good_sz (by omega) hgm
 have hoz := good_sz (by omega) hgo
 have hmA : RdsL [many [QI 92 1 a1 c1 m.px.length (Q7 m.px), QI 92 1 a2 c2 o.px.length (Q7 o.px), QI 92 1 a3 c3 p.px.length (Q7 p.px)]] a1 (Q7 m.px) := QO.ent (many_mem (A := QI 92 1 a1 c1 m.px.length (Q7 m.px)) List.mem_cons_self)
 have hoA : RdsL [many [QI 92 1 a1 c1 m.px.length (Q7 m.px), QI 92 1 a2 c2 o.px.length (Q7 o.px), QI 92 1 a3 c3 p.px.length (Q7 p.px)]] a2 (Q7 o.px) := QO.ent (many_mem (A := QI 92 1 a2 c2 o.px.length (Q7 o.px)) (List.mem_cons_of_mem _ List.mem_cons_self))
 have hpA : RdsL [many [QI 92 1 a1 c1 m.px.length (Q7 m.px), QI 92 1 a2 c2 o.px.length (Q7 o.px), QI 92 1 a3 c3 p.px.length (Q7 p.px)]] a3 (Q7 p.px) := QO.ent (many_mem (A := QI 92 1 a3 c3 p.px.length (Q7 p.px)) (List.mem_cons_of_mem _ (List.mem_cons_of_mem _ List.mem_cons_self)))
 have htok : ∀ r ∈ ([(o, a2, c2), (p, a3, c3)] : ImL), RdsL [many [QI 92 1 a1 c1 m.px.length (Q7 m.px), QI 92 1 a2 c2 o.px.length (Q7 o.px), QI 92 1 a3 c3 p.px.length (Q7 p.px)]] r.2.1 (Q7 r.1.px) ∧ GoodI 100 r.1 ∧ r.1.px.length ≤ r.2.2 := by
  intro r hr
  rcases List.mem_cons.1 hr with rfl | hr
  ·exact ⟨hoA, good_le hgo (by omega), hgoc⟩
  ·obtain rfl := List.mem_singleton.1 hr
   exact ⟨hpA, good_le hgp (by omega), hgpc⟩
 have hll : ([(o, a2, c2), (p, a3, c3)] : ImL).length = 2 := rfl
 generalize ([(o, a2, c2), (p, a3, c3)] : ImL) = L at *
 generalize many [QI 92 1 a1 c1 m.px.length (Q7 m.px), QI 92 1 a2 c2 o.px.length (Q7 o.px), QI 92 1 a3 c3 p.px.length (Q7 p.px)] = B2 at *
 refine Wp.loopD (σ := Nat) (fun i => i ≤ 2) [4, 9, 10, 11, 12, 33, 34, 35, 36, 37, 38, 39, 40, 41, 42, 43, 44, 45, 46, 47, 48, 49, 50, 51, 52, 53, 54, 55, 56, 57, 58, 59, 60, 61, 62, 63, 64, 65, 66, 67, 68, 69, 70] (fun i => [(9, .int .i64 (i : Int))]) (fun i => [QB gM [.int .i64 m.c, .int .i64 m.m, .int .i64 m.w, .int .i64 m.h, .slice a1 m.px.length c1] 71, QB gO [.int .i64 o.c, .int .i64 o.m, .int .i64 o.w, .int .i64 o.h, .slice a2 o.px.length c2] 71, QB gP [.int .i64 p.c, .int .i64 p.m, .int .i64 p.w, .int .i64 p.h, .slice a3 p.px.length c3] 71, QB gS (mCs L) 71, B2, A0]) (fun i => 2 - i) 0 ?_ (by repeat (first | exact FrLe.nil | refine FrLe.cons rfl ?_)) ?_ ?_
 ·exact Nat.zero_le _
 ·exact Ent.refl _
 ·rintro i hi
  refine Qb (Qb (Qa (Qd rfl rfl (Q5 rfl rfl rfl (WpL.nil (Qm rfl (fun h1 => ?_) (fun h1 => ?_)))))))
  ·have hit : i < L.length := by omega
   obtain ⟨htr, htg, htc⟩ := htok _ (List.getElem_mem hit)
   have hne := mCs_ne L hit
   have htA : RdsL [QB gS (mCs L) 71] (some ⟨gS, 0, none⟩) (mCs L) := RdsL.blk (o := 0) (by simp)
   refine Wp.skip (Qb (Wp.block ?_))
   refine Qb ?_
   apply Xa (fB := []) mixed [(7, false)] (by kernel_rfl)
   apply Q4 [⟨0, 37, _, [], false⟩, ⟨1, 38, _, [0], false⟩, ⟨2, 39, _, [], false⟩, ⟨3, 40, _, [], false⟩, ⟨4, 41, _, [2, 3], false⟩, ⟨5, 42, _, [4], false⟩, ⟨6, 43, _, [1, 5], false⟩] [] [0, 1, 2, 3, 4, 5, 6] [10] (.inr rfl) rfl rfl rfl (by kernel_rfl) rfl rfl rfl
   ·refine AllF.cons rfl rfl rfl rfl ?_ ?_
    ·refine Qy (vs := [_, _, _, _, _]) rfl rfl rfl (by rfl) ?_
     exact Ql rfl
    refine AllF.cons rfl rfl rfl rfl ?_ ?_
    ·refine Qh rfl rfl (by repeat' constructor) (of10_spec m a1 c1) ?_
     rintro _ _ ⟨rfl, rfl⟩
     simp only [Qr]
     exact WpL.nil ⟨rfl, rfl, rfl, by exact Ent.refl _⟩
    refine AllF.cons rfl rfl rfl rfl ?_ ?_
    ·exact Qd rfl rfl (Ql rfl)
    refine AllF.cons rfl rfl rfl rfl ?_ ?_
    ·exact Qd rfl rfl (Ql rfl)
    refine AllF.cons rfl rfl rfl rfl ?_ ?_
    ·refine s_ixR (s := 5) i rfl rfl rfl htA (by exact Take.ent' (by repeat' constructor)) rfl (by omega) hne ?_
     exact Ql rfl
    refine AllF.cons rfl rfl rfl rfl ?_ ?_
    ·refine s_ldaX (vs := mC L[i].1 L[i].2.1 L[i].2.2) rfl rfl htA (by exact Take.ent' (by repeat' constructor)) hne rfl (mCs_seg L hit) ?_
     exact Ql rfl
    refine AllF.cons rfl rfl rfl rfl ?_ ?_
    ·refine Qh rfl rfl (by repeat' constructor) (of10_spec L[i].1 L[i].2.1 L[i].2.2) ?_
     rintro _ _ ⟨rfl, rfl⟩
     simp only [Qr]
     exact WpL.nil ⟨rfl, rfl, rfl, by exact Ent.refl _⟩
    exact AllF.nil
   ·refine Qh rfl rfl (by repeat' constructor) (iFindX_spec B2 m L[i].1 a1 L[i].2.1 c1 L[i].2.2 hmA htr (good_le hgm (by omega)) htg hgmc htc) ?_
    rintro _ _ ⟨aF, cF, rfl, rfl⟩
    simp only [Qr]
    refine WpL.nil ⟨rfl, rfl, ?_⟩
    apply GoR.nil [⟨8, 10, _, [0, 1, 2, 3, 4, 5, 6, 7], false⟩] (.inr rfl) rfl rfl
    ·refine AllF.cons rfl rfl rfl rfl ?_ ?_
     ·exact Qe rfl rfl (Ql rfl)
     exact AllF.nil
    ·refine QT (gr := [(5, _), (6, _), (7, _), (8, _), (9, _), (10, _)]) (FrLe.cons rfl (FrLe.cons rfl (FrLe.cons rfl (FrLe.cons rfl (FrLe.cons rfl (FrLe.cons rfl FrLe.nil)))))) ?_
     refine Qb ?_
     apply Xa (fB := []) mixed [(5, false)] (by kernel_rfl)
     apply Q4 [⟨0, 45, _, [], false⟩, ⟨1, 46, _, [], false⟩, ⟨2, 47, _, [], false⟩, ⟨3, 48, _, [1, 2], false⟩, ⟨4, 49, _, [3], false⟩] [] [0, 1, 2, 3, 4] [11] (.inr rfl) rfl rfl rfl (by kernel_rfl) rfl rfl rfl
     ·refine AllF.cons rfl rfl rfl rfl ?_ ?_
      ·refine Qy (vs := [_, _, _, _, _]) rfl rfl rfl (by rfl) ?_
       exact Ql rfl
      refine AllF.cons rfl rfl rfl rfl ?_ ?_
      ·exact Qd rfl rfl (Ql rfl)
      refine AllF.cons rfl rfl rfl rfl ?_ ?_
      ·exact Qd rfl rfl (Ql rfl)
      refine AllF.cons rfl rfl rfl rfl ?_ ?_
      ·refine s_ixR (s := 5) i rfl rfl rfl htA (by exact Take.ent' (by repeat' constructor)) rfl (by omega) hne ?_
       exact Ql rfl
      refine AllF.cons rfl rfl rfl rfl ?_ ?_
      ·refine s_ldaX (vs := mC L[i].1 L[i].2.1 L[i].2.2) rfl rfl htA (by exact Take.ent' (by repeat' constructor)) hne rfl (mCs_seg L hit) ?_
       exact Ql rfl
      exact AllF.nil
     ·refine Qh rfl rfl (by repeat' constructor) (rFind10X_spec B2 m L[i].1 a1 L[i].2.1 c1 L[i].2.2 hmA htr (good_le hgm (by omega)) htg hgmc htc) ?_
      rintro _ _ ⟨aG, cG, rfl, rfl⟩
      simp only [Qr]
      refine WpL.nil ⟨rfl, rfl, ?_⟩
      apply GoR.nil [⟨6, 11, _, [0, 1, 2, 3, 4, 5], false⟩] (.inr rfl) rfl rfl
      ·refine AllF.cons rfl rfl rfl rfl ?_ ?_
       ·exact Qe rfl rfl (Ql rfl)
       exact AllF.nil
      ·refine QT (gr := [(5, _), (6, _), (7, _), (8, _), (9, _), (10, _), (11, _)]) (FrLe.cons rfl (FrLe.cons rfl (FrLe.cons rfl (FrLe.cons rfl (FrLe.cons rfl (FrLe.cons rfl (FrLe.cons rfl FrLe.nil))))))) ?_
       refine Qb (Qb (Qa (Qd rfl rfl (QL rfl rfl (Qd rfl rfl (QL rfl rfl (Xk rfl rfl rfl (WpL.nil (QA rfl (fun h => h rfl) ?_)))))))))
       refine Wp.skip (Qb (Qa (Qe rfl rfl (WpL.nil (QT (gr := [(5, _), (6, _), (7, _), (8, _), (9, _), (10, _), (11, _), (12, _)]) (FrLe.cons rfl (FrLe.cons rfl (FrLe.cons rfl (FrLe.cons rfl (FrLe.cons rfl (FrLe.cons rfl (FrLe.cons rfl (FrLe.cons rfl FrLe.nil)))))))) ?_)))))
       refine Wp.block ?_
       have hFl := igX_len (y := L[i].1) (good_le hgm (show (8 : Int) ≤ 100 by omega))
       generalize igX m L[i].1 = F at *
       refine Wp.loopD (σ := Nat) (fun k => k ≤ F.length) [4, 12, 56, 57, 58, 59, 60, 61, 62, 63, 64, 65, 66, 67, 68, 69, 70] (fun k => [(12, .int .i64 (k : Int))]) (fun k => [QI 106 2 aF cF F.length (F.flatMap plC), QI 106 2 aG cG F.length (F.flatMap plC), QB gM [.int .i64 m.c, .int .i64 m.m, .int .i64 m.w, .int .i64 m.h, .slice a1 m.px.length c1] 71, QB gO [.int .i64 o.c, .int .i64 o.m, .int .i64 o.w, .int .i64 o.h, .slice a2 o.px.length c2] 71, QB gP [.int .i64 p.c, .int .i64 p.m, .int .i64 p.w, .int .i64 p.h, .slice a3 p.px.length c3] 71, QB gS (mCs L) 71, B2, A0]) (fun k => F.length - k) 0 ?_ (by repeat (first | exact FrLe.nil | refine FrLe.cons rfl ?_)) ?_ ?_
       ·exact Nat.zero_le _
       ·exact Take.ent' (by repeat' constructor)
       ·rintro k hk
        refine Qb (Qb (Qa (Qd rfl rfl (Qd rfl rfl (QL rfl rfl (Q5 rfl rfl rfl (WpL.nil (QT (gr := [(5, _), (6, _), (7, _), (8, _), (9, _), (10, _), (11, _), (12, _), (59, _)]) (FrLe.cons rfl (FrLe.cons rfl (FrLe.cons rfl (FrLe.cons rfl (FrLe.cons rfl (FrLe.cons rfl (FrLe.cons rfl (FrLe.cons rfl (FrLe.cons rfl FrLe.nil))))))))) ?_))))))))
        refine Qm rfl (fun h4 => ?_) (fun h4 => ?_)
        ·have hkF : k < F.length := by omega
         have hsg := flat_seg (s := 2) (f := plC) (fun _ => rfl) F k hkF
         have hnf : F.flatMap plC ≠ [] := fun q => by rw [q] at hsg; simp [plC] at hsg
         refine Wp.skip (Qb (Wp.block ?_))
         refine Qb ?_
         apply QS mixed [⟨62, _, []⟩, ⟨63, _, []⟩, ⟨64, _, [0, 1]⟩, ⟨65, _, [2]⟩, ⟨66, _, []⟩, ⟨67, _, []⟩, ⟨68, _, [4, 5]⟩, ⟨69, _, [6]⟩, ⟨70, _, [3, 7]⟩] rfl
         ·refine AllObs.mk ?_ ?_
          ·exact Qd rfl rfl (Ql rfl)
          refine AllObs.mk ?_ ?_
          ·exact Qd rfl rfl (Ql rfl)
          refine AllObs.mk ?_ ?_
          ·refine s_ixR (s := 2) k rfl rfl rfl (QO (T := 106) (s := 2) (a := aF) (c := cF) (m := F.length)) (by exact Take.ent' (by repeat' constructor)) rfl (by omega) hnf ?_
           exact Ql rfl
          refine AllObs.mk ?_ ?_
          ·refine s_ldaX (vs := [.int .i64 F[k].1, .int .i64 F[k].2]) rfl rfl (QO (T := 106) (s := 2) (a := aF) (c := cF) (m := F.length)) (by exact Take.ent' (by repeat' constructor)) hnf rfl hsg ?_
           exact Ql rfl
          refine AllObs.mk ?_ ?_
          ·exact Qd rfl rfl (Ql rfl)
          refine AllObs.mk ?_ ?_
          ·exact Qd rfl rfl (Ql rfl)
          refine AllObs.mk ?_ ?_
          ·refine s_ixR (s := 2) k rfl rfl rfl (QO (T := 106) (s := 2) (a := aG) (c := cG) (m := F.length)) (by exact Take.ent' (by repeat' constructor)) rfl (by omega) hnf ?_
           exact Ql rfl
          refine AllObs.mk ?_ ?_
          ·refine s_ldaX (vs := [.int .i64 F[k].1, .int .i64 F[k].2]) rfl rfl (QO (T := 106) (s := 2) (a := aG) (c := cG) (m := F.length)) (by exact Take.ent' (by repeat' constructor)) hnf rfl hsg ?_
           exact Ql rfl
          refine AllObs.mk ?_ ?_
          ·exact s_arneS F[k].1 F[k].2 rfl rfl rfl (Ql rfl)
          exact AllObs.nil
         ·refine Wp.condBF rfl rfl (Wp.skip (Qa (Qd rfl rfl (QD rfl rfl rfl (Qs (by omega) (by omega)) ?_))))
          refine Qe rfl rfl (WpL.nil (Qw (k + 1) ?_ ?_ (by exact Top.le (by repeat (first | exact FrLe.nil | refine FrLe.cons rfl ?_))) (by repeat (first | exact FrLe.nil | refine FrLe.cons rfl ?_)) ?_))
          ·omega
          ·omega
          ·exact Ent.refl _
        ·refine QJ (Qa (Qd rfl rfl (QD rfl rfl rfl (Qs (by omega) (by omega)) ?_)))
         refine Qe rfl rfl (WpL.nil (Qw (i + 1) ?_ ?_ (by exact Top.le (by repeat (first | exact FrLe.nil | refine FrLe.cons rfl ?_))) (by repeat (first | exact FrLe.nil | refine FrLe.cons rfl ?_)) ?_))
         ·omega
         ·omega
         ·exact Take.ent' (by repeat' constructor)
  ·refine QJ (Qb ?_)
   apply QS mixed [⟨71, _, []⟩, ⟨72, _, [0]⟩, ⟨73, _, []⟩, ⟨74, _, [2, 1]⟩, ⟨75, _, [1, 3]⟩, ⟨76, _, []⟩, ⟨77, _, []⟩, ⟨78, _, [5, 6, 4]⟩, ⟨79, _, [4, 7]⟩, ⟨80, _, [8, 7]⟩, ⟨81, _, [9]⟩, ⟨82, _, [9, 10]⟩, ⟨4, _, [11, 10, 0, 1, 2, 3, 4, 5, 6, 7, 8, 9]⟩] rfl
   ·refine AllObs.mk ?_ ?_
    ·refine Qy (vs := [_, _, _, _, _]) rfl rfl rfl (by rfl) ?_
     exact Ql rfl
    refine AllObs.mk ?_ ?_
    ·refine Qh rfl rfl (by repeat' constructor) (of10_spec o a2 c2) ?_
     rintro _ _ ⟨rfl, rfl⟩
     simp only [Qr]
     exact WpL.nil ⟨rfl, rfl, rfl, by exact Ent.refl _⟩
    refine AllObs.mk ?_ ?_
    ·refine Qy (vs := [_, _, _, _, _]) rfl rfl rfl (by rfl) ?_
     exact Ql rfl
    refine AllObs.mk ?_ ?_
    ·refine Qh rfl rfl (by repeat' constructor) (of10_spec p a3 c3) ?_
     rintro _ _ ⟨rfl, rfl⟩
     simp only [Qr]
     exact WpL.nil ⟨rfl, rfl, rfl, by exact Ent.refl _⟩
    refine AllObs.mk ?_ ?_
    ·refine Qh rfl rfl (by repeat' constructor) (iSame_spec [B2] o p a2 a3 c2 c3 hoA hpA (by omega)) ?_
     rintro _ _ ⟨rfl, rfl⟩
     simp only [Qr]
     exact WpL.nil ⟨rfl, rfl, rfl, by exact Take.ent' (by repeat' constructor)⟩
    refine AllObs.mk ?_ ?_
    ·refine Qy (vs := [_, _, _, _, _]) rfl rfl rfl (by rfl) ?_
     exact Ql rfl
    refine AllObs.mk ?_ ?_
    ·refine Qy (vs := [_, _, _, _, _]) rfl rfl rfl (by rfl) ?_
     exact Ql rfl
    refine AllObs.mk ?_ ?_
    ·refine Qh rfl rfl (by repeat' constructor) (rSame10_spec [B2] o p a2 a3 c2 c3 hoA hpA (by omega)) ?_
     rintro _ _ ⟨rfl, rfl⟩
     simp only [Qr]
     exact WpL.nil ⟨rfl, rfl, rfl, by exact Take.ent' (by repeat' constructor)⟩
    refine AllObs.mk ?_ ?_
    ·exact s_beq rfl Tryz.underlying4 rfl rfl (Ql rfl)
    refine AllObs.mk ?_ ?_
    ·exact Qd rfl rfl (Ql rfl)
    refine AllObs.mk ?_ ?_
    ·refine Qt (dj := 80) rfl (beq_self_eq_true _) ?_
     refine Qf rfl rfl (Qh rfl rfl (by repeat' constructor) (lives10_spec) ?_)
     rintro _ _ ⟨rfl, rfl⟩
     simp only [Qr]
     exact WpL.nil ⟨rfl, rfl, rfl, by exact Ent.refl _⟩
    refine AllObs.mk ?_ ?_
    ·refine Qt (dj := 80) rfl (beq_self_eq_true _) ?_
     exact Qx rfl rfl rfl (Ql rfl)
    refine AllObs.mk ?_ ?_
    ·exact Qe rfl rfl (Ql rfl)
    exact AllObs.nil
   ·refine Qi ?_
    apply RetQ.mk
    ·exact (Res.one rfl rfl)
    ·exact ⟨rfl, rfl⟩
    ·exact Take.ent' (by repeat' constructor)

end Go.Proofs.YtggamdlpiejbiaaGreat
