/- Walks and plain laws, a part of the proof of PnmAll: every input that the law's guards let in, no condition beside. -/
import Derived.Test.YtggamdlpiejbiaaGreatM28
namespace Go.Proofs.YtggamdlpiejbiaaGreat
open Go.RowKit Go.Shelf


theorem cnt3_le (es : List Evt) : Zq es ≤ (es.length : Int) := by
  unfold Zq
  have := List.length_filter_le (fun x : Evt => decide (x.k = 3)) es
  omega
theorem ims_le (es : List (Evt × Int)) : (XW es).length ≤ es.length := by
  have h1 := img_cnt es
  have h2 := cnt3_le (es.map (·.1))
  rw [List.length_map] at h2
  omega
section
variable {P : Program} {n : Cx} {D : List Deferred} {ops : Array Oper} {rest : List Oper} {Q : Post} {fr : Fr} {l : List HP}
theorem WpL.manyMax {α : Type} {T : Nat} {row : α → List Int} {L : List (α × Option Addr × Nat)} (he : Ent l [YN (L.map fun r => own T 1 r.2.1 r.2.2 (row r.1).length (Xy (row r.1)))]) (k : (∀ r ∈ L, (row r.1).length ≤ 9223372036854775807) → WpL P n D ops rest Q fr l) : WpL P n D ops rest Q fr l := fun A w U hh hs =>
  k (fun r hr => by
    obtain ⟨S, hp, _⟩ := (he.trans (many_mem (List.mem_map_of_mem hr))) w U hs
    exact own_max hp) A w U hh hs
end

set_option maxRecDepth 4000 in
set_option maxHeartbeats 4000000 in
theorem lAll_spec (A0 : HP) (a0 : Option Addr) (c0 : Nat) (bs : List Int) (hA0 : RdsL [A0] a0 (XM bs)) (hb0 : ∀ x ∈ bs, 0 ≤ x ∧ x ≤ 255) (hc0 : bs.length ≤ c0) (hbl : bs.length ≤ 9223372036854775807) (ga : Option Addr) (gc : Nat) (gs : List GS) (hgl : gs.length ≤ 9223372036854775807) (hG : RdsL [A0] ga (gs.flatMap gC)) (hgs : GsOk A0 gs) (ya : Option Addr) (yc : Nat) (ys : List Int) (hy : RdsL [A0] ya (Q3 ys)) (hyl : ys.length ≤ 9223372036854775807) (p cc q : Int) (hp : -9223372036854775808 ≤ p ∧ p < 9223372036854775808) (hcc : 0 ≤ cc ∧ cc ≤ 255) (hq : -9223372036854775808 ≤ q ∧ q < 9223372036854775808) (a b d : Int) : Fn Tryz.prog 6 #[.slice a0 bs.length c0, .agg #[.int .i64 a, .int .i64 b, .int .i64 d], .slice ga gs.length gc, .slice ya ys.length yc, .int .i64 p, .int .u8 cc, .int .i64 q] [A0] (fun v l => v = .bool true ∧ l = [A0]) := by
 refine Qo (vs := [.slice a0 bs.length c0, .agg #[.int .i64 a, .int .i64 b, .int .i64 d], .slice ga gs.length gc, .slice ya ys.length yc, .int .i64 p, .int .u8 cc, .int .i64 q]) Tryz.func6 rfl Tryz.ntmps6 rfl (Qb (Qa (Xb rfl rfl rfl ?_)))
 intro gL
 refine Qd rfl rfl (WpL.nil (Qb (Qa (Qc rfl rfl (Qc rfl rfl (Qc rfl rfl (Qc rfl rfl (Qc rfl rfl (Qc rfl rfl (Qj rfl rfl (by repeat' constructor) (lstream2_spec A0 a0 c0 bs hA0 hb0 hc0 hbl ga gc gs hgl hG hgs ya yc ys hy hyl p cc q hp hcc hq) ?_))))))))))
 rintro _ _ ⟨ts, gT, B, hts4, htok, hBA, rfl, rfl⟩
 simp only [Qv]
 refine Qd rfl rfl (WpL.nil (Qb (Qb (Qa (Qd rfl rfl (WpL.nil (Wp.block ?_)))))))
 refine Wp.loopD (σ := Nat) (fun i => i ≤ 4) [14, 16, 17, 18, 19, 20, 21, 29, 30, 31, 32, 33, 34, 35, 36, 37, 38, 39, 40, 41, 42, 43, 44, 45, 46, 47, 48, 49, 50, 51, 52, 53, 54, 55, 56, 57, 58, 59, 60, 61, 62, 63, 64, 65, 66, 67, 68, 69, 70, 71, 72] (fun i => [(16, .int .i64 (i : Int))]) (fun i => [Qz gT (ts.map txV) 22, B, Qz gL [.int .i64 a, .int .i64 b, .int .i64 d] 24]) (fun i => 4 - i) 0 ?_ (by repeat (first | exact FrLe.nil | refine FrLe.cons rfl ?_)) ?_ ?_
 ·exact Nat.zero_le _
 ·exact Ent.refl _
 ·rintro i hi
  refine Qb (Qb (Qa (Qc rfl rfl (Qc rfl rfl (QM rfl rfl (Q9 rfl rfl rfl (WpL.nil (Qh rfl (fun h1 => ?_) (fun h1 => ?_)))))))))
  ·have hit : i < ts.length := by omega
   obtain ⟨htA, htb, htc, htl⟩ := htok _ (List.getElem_mem hit)
   refine Wp.skip (Qb (Wp.block ?_))
   refine Qb (Qa (Qj rfl rfl (by repeat' constructor) (hdAll_spec) ?_))
   rintro _ _ ⟨rfl, rfl⟩
   simp only [Qv]
   obtain ⟨a', b', d', hl1, hl2⟩ := lim_ex ((i : Int) = 0) a b d 4096 65536 65535
   refine X1 rfl ?_
   intro gB
   refine QG rfl rfl rfl (by rfl) rfl ?_
   refine WpL.nil ?_
   refine Wp.cutL (True) [36, 37, 38] [Qz gB [.int .i64 a', .int .i64 b', .int .i64 d'] 24, Qz gT (ts.map txV) 22, B, Qz gL [.int .i64 a, .int .i64 b, .int .i64 d] 24] ?_ (fun hc2 => ?_)
   ·refine Qb (Qa (Qc rfl rfl (QI rfl rfl rfl (WpL.nil (Qh rfl (fun h2 => ?_) (fun h2 => ?_))))))
    ·obtain ⟨rfl, rfl, rfl⟩ := hl1 h2
     refine Qa ?_
     refine Qx (vs := [_, _, _]) rfl rfl rfl (by rfl) ?_
     refine QG rfl rfl rfl (by rfl) rfl ?_
     refine WpL.nil ?_
     refine ZD ?_ (by ((repeat (first | exact Top.refl | refine Top.push rfl ?_)); done)) (by exact Ent.refl _)
     trivial
    ·obtain ⟨rfl, rfl, rfl⟩ := hl2 h2
     refine Wp.skip ?_
     refine ZD ?_ (by ((repeat (first | exact Top.refl | refine Top.push rfl ?_)); done)) (by exact Ent.refl _)
     trivial
   ·refine Qb ?_
    apply Yp (fB := []) mixed 6 [(5, false), (0, true)] rfl rfl (by kernel_rfl)
    apply Q4 [⟨0, 39, _, [], false⟩, ⟨1, 40, _, [], false⟩, ⟨2, 41, _, [0, 1], false⟩, ⟨3, 42, _, [2], false⟩, ⟨4, 43, _, [], false⟩] [] [0, 1, 2, 3, 4] [18] (.inr rfl) rfl rfl rfl (by kernel_rfl) rfl rfl rfl
    ·refine AllF.cons rfl rfl rfl rfl ?_ ?_
     ·exact Qc rfl rfl (Qm rfl)
     refine AllF.cons rfl rfl rfl rfl ?_ ?_
     ·exact Qc rfl rfl (Qm rfl)
     refine AllF.cons rfl rfl rfl rfl ?_ ?_
     ·refine Xo i rfl rfl rfl (rds_txs (ts := ts)) (by exact Take.ent' (by repeat' constructor)) (by omega) (by omega) (by rw [List.length_map]; exact hit) ?_
      exact Qm rfl
     refine AllF.cons rfl rfl rfl rfl ?_ ?_
     ·refine Xp rfl rfl (rds_txs (ts := ts)) (by exact Take.ent' (by repeat' constructor)) (txv_at ts hit) ?_
      exact Qm rfl
     refine AllF.cons rfl rfl rfl rfl ?_ ?_
     ·refine Qx (vs := [_, _, _]) rfl rfl rfl (by rfl) ?_
      exact Qm rfl
     exact AllF.nil
    ·refine Qj rfl rfl (by repeat' constructor) (rStream_spec B ts[i].a ts[i].c ts[i].bs htA htb htc htl a' b' d' true) ?_
     rintro _ _ ⟨aL, cL, aI, cI, s1, es, A1, hall, hA1, rfl, hel, rfl⟩
     simp only [Qv]
     refine WpL.nil ⟨rfl, rfl, ?_⟩
     apply YP [] [] [] [] (.inr rfl) rfl rfl rfl (by kernel_rfl) rfl rfl rfl rfl
     ·exact AllF.nil
     ·intro gS
      refine QG rfl rfl rfl (by rfl) rfl ?_
      refine WpL.nil ⟨rfl, rfl, ?_⟩
      apply GoR.nil [] (.inr rfl) rfl rfl
      ·exact AllF.nil
      ·refine Qb ?_
       apply Xe (fB := []) mixed [(5, false)] (by kernel_rfl)
       apply Q4 [⟨0, 46, _, [], false⟩, ⟨1, 47, _, [], false⟩, ⟨2, 48, _, [0, 1], false⟩, ⟨3, 49, _, [2], false⟩, ⟨4, 50, _, [], false⟩] [] [0, 1, 2, 3, 4] [45, 52, 53, 54, 19, 20, 21] (.inr rfl) rfl rfl rfl (by kernel_rfl) rfl rfl rfl
       ·refine AllF.cons rfl rfl rfl rfl ?_ ?_
        ·exact Qc rfl rfl (Qm rfl)
        refine AllF.cons rfl rfl rfl rfl ?_ ?_
        ·exact Qc rfl rfl (Qm rfl)
        refine AllF.cons rfl rfl rfl rfl ?_ ?_
        ·refine Xo i rfl rfl rfl (rds_txs (ts := ts)) (by exact Take.ent' (by repeat' constructor)) (by omega) (by omega) (by rw [List.length_map]; exact hit) ?_
         exact Qm rfl
        refine AllF.cons rfl rfl rfl rfl ?_ ?_
        ·refine Xp rfl rfl (rds_txs (ts := ts)) (by exact Take.ent' (by repeat' constructor)) (txv_at ts hit) ?_
         exact Qm rfl
        refine AllF.cons rfl rfl rfl rfl ?_ ?_
        ·refine Qx (vs := [_, _, _]) rfl rfl rfl (by rfl) ?_
         exact Qm rfl
        exact AllF.nil
       ·refine Qj rfl rfl (by repeat' constructor) (pnAll_spec B ts[i].a ts[i].c ts[i].bs htA htb htc htl a' b' d') ?_
        rintro _ _ ⟨aO, cO, rfl, rfl⟩
        simp only [Qv]
        rw [← hall]
        dsimp only
        refine WpL.ent (Take.ent' (pre := [imR2 aO cO (XW es), imR aI cI (XW es), Qz gS [.slice aL es.length cL, .slice aI (XW es).length cI, .int .i64 s1.e, .int .i64 A1, .int .i64 s1.told] 33, B, Qz gB [.int .i64 a', .int .i64 b', .int .i64 d'] 24, Qz gT (ts.map txV) 22, Qz gL [.int .i64 a, .int .i64 b, .int .i64 d] 24]) (by repeat' constructor)) ?_
        refine WpL.exs Take1.here fun lI => ?_
        refine WpL.pur Take1.here fun hlI => ?_
        refine WpL.exs (Take1.there (Take1.there Take1.here)) fun lJ => ?_
        refine WpL.pur Take1.here fun hlJ => ?_
        refine WpL.ent (Take.ent' (pre := [own 79 5 aO cO (XW es).length (mCs lI), YN (lI.map fun r => own 92 1 r.2.1 r.2.2 r.1.px.length (Xy r.1.px)), own 71 5 aI cI (XW es).length (mCs lJ), YN (lJ.map fun r => own 92 1 r.2.1 r.2.2 r.1.px.length (Xy r.1.px)), Qz gS [.slice aL es.length cL, .slice aI (XW es).length cI, .int .i64 s1.e, .int .i64 A1, .int .i64 s1.told] 33, B, Qz gB [.int .i64 a', .int .i64 b', .int .i64 d'] 24, Qz gT (ts.map txV) 22, Qz gL [.int .i64 a, .int .i64 b, .int .i64 d] 24]) (by repeat' constructor)) ?_
        refine WpL.manyMax (row := Img.px) (L := lI) (Take.ent' (by repeat' constructor)) (fun hmx => ?_)
        have hli : lI.length = (XW es).length := by rw [← hlI, List.length_map]
        have hlj : lJ.length = (XW es).length := by rw [← hlJ, List.length_map]
        have hile := ims_le es
        have he13 : (if s1.e = 0 then 0 else s1.e) = s1.e := by by_cases h : s1.e = 0 <;> simp [h]
        rw [← hli]
        refine WpL.nil ⟨rfl, rfl, ?_⟩
        apply GoR.nil [⟨6, 45, _, [5], false⟩, ⟨7, 52, _, [6], false⟩, ⟨8, 53, _, [6], false⟩, ⟨9, 54, _, [6], false⟩, ⟨10, 19, _, [0, 1, 2, 3, 4, 5, 6, 7], false⟩, ⟨11, 20, _, [0, 1, 2, 3, 4, 5, 6, 7, 8, 10], false⟩, ⟨12, 21, _, [0, 1, 2, 3, 4, 5, 6, 7, 8, 9, 10, 11], false⟩] (.inr rfl) rfl rfl
        ·refine AllF.cons rfl rfl rfl rfl ?_ ?_
         ·exact Qc rfl rfl (Qm rfl)
         refine AllF.cons rfl rfl rfl rfl ?_ ?_
         ·exact QK rfl rfl rfl (Qm rfl)
         refine AllF.cons rfl rfl rfl rfl ?_ ?_
         ·exact QK rfl rfl rfl (Qm rfl)
         refine AllF.cons rfl rfl rfl rfl ?_ ?_
         ·exact QK rfl rfl rfl (Qm rfl)
         refine AllF.cons rfl rfl rfl rfl ?_ ?_
         ·exact Qd rfl rfl (Qm rfl)
         refine AllF.cons rfl rfl rfl rfl ?_ ?_
         ·exact Qd rfl rfl (Qm rfl)
         refine AllF.cons rfl rfl rfl rfl ?_ ?_
         ·exact Qd rfl rfl (Qm rfl)
         exact AllF.nil
        ·refine Qb ?_
         apply Yc (fB := [Qz gS [.slice aL es.length cL, .slice aI lI.length cI, .int .i64 s1.e, .int .i64 A1, .int .i64 s1.told] 33]) [0, 1, 2, 3, 4, 5, 6, 7, 8, 9, 10, 11, 13, 14, 12, 15, 16, 17] [55, 56, 57, 58, 59, 60, 61, 62, 63, 64, 65, 66, 68, 69, 67, 70, 71, 72] 18 mixed (by kernel_rfl) [(14, false)] (by kernel_rfl) (by kernel_rfl) (by kernel_rfl)
         apply Q7 [⟨0, 55, _, [], false⟩, ⟨1, 56, _, [], false⟩, ⟨2, 57, _, [1], false⟩, ⟨3, 58, _, [0, 2], false⟩, ⟨4, 59, _, [3], false⟩, ⟨5, 60, _, [4], false⟩, ⟨6, 61, _, [4], false⟩, ⟨7, 62, _, [4, 6], false⟩, ⟨8, 63, _, [4, 5, 7], false⟩, ⟨9, 64, _, [4, 8], false⟩, ⟨10, 65, _, [4, 9], false⟩, ⟨11, 66, _, [10], false⟩, ⟨12, 68, _, [10], true⟩, ⟨13, 69, _, [10, 12], true⟩] [] [0, 1, 2, 3, 4, 5, 6, 7, 8, 9, 10, 11] [70, 71, 72] [70, 71, 72, 68, 69] (.inl ⟨_, by repeat' constructor⟩) rfl rfl rfl (by kernel_rfl) rfl (by kernel_rfl) rfl rfl
         ·refine Ql 0 [] rfl rfl rfl rfl (by kernel_rfl) rfl ?_ ?_
          ·exact Qc rfl rfl (Qm rfl)
          refine Ql 1 [] rfl rfl rfl rfl (by kernel_rfl) rfl ?_ ?_
          ·exact Qi (o2 := 2) rfl rfl rfl (Qm rfl)
          refine Ql 2 [1] rfl rfl rfl rfl (by kernel_rfl) rfl ?_ ?_
          ·refine Qn rfl rfl (by rfl) ?_
           exact Qm rfl
          refine Ql 3 [0, 2] rfl rfl rfl rfl (by kernel_rfl) rfl ?_ ?_
          ·exact Xs rfl rfl rfl (Qm rfl)
          refine Ql 4 [3] rfl rfl rfl rfl (by kernel_rfl) rfl ?_ ?_
          ·exact Qc rfl rfl (Qm rfl)
          refine Ql 5 [4] rfl rfl rfl rfl (by kernel_rfl) rfl ?_ ?_
          ·refine QA (dj := 59) rfl (decide_eq_false (fun h => h he13)) ?_
           exact Qf rfl rfl (Qc rfl rfl (Qm rfl))
          refine Ql 6 [4] rfl rfl rfl rfl (by kernel_rfl) rfl ?_ ?_
          ·refine QA (dj := 59) rfl (decide_eq_false (fun h => h he13)) ?_
           exact Qf rfl rfl (Qi (o2 := 3) rfl rfl rfl (Qm rfl))
          refine Ql 7 [4, 6] rfl rfl rfl rfl (by kernel_rfl) rfl ?_ ?_
          ·refine QA (dj := 59) rfl (decide_eq_false (fun h => h he13)) ?_
           refine Qf rfl rfl (Qn rfl rfl (by rfl) ?_)
           exact Qm rfl
          refine Ql 8 [4, 5, 7] rfl rfl rfl rfl (by kernel_rfl) rfl ?_ ?_
          ·refine QA (dj := 59) rfl (decide_eq_false (fun h => h he13)) ?_
           exact Qf rfl rfl (Xs rfl rfl rfl (Qm rfl))
          refine Ql 9 [4, 8] rfl rfl rfl rfl (by kernel_rfl) rfl ?_ ?_
          ·refine QA (dj := 59) rfl (decide_eq_false (fun h => h he13)) ?_
           exact Qu rfl rfl rfl (Qm rfl)
          refine Ql 10 [4, 9] rfl rfl rfl rfl (by kernel_rfl) rfl ?_ ?_
          ·exact Qc rfl rfl (Qm rfl)
          refine Ql 11 [10] rfl rfl rfl rfl (by kernel_rfl) rfl ?_ ?_
          ·refine QA (dj := 65) rfl (decide_eq_false (fun hx => hx hA1.symm)) ?_
           exact Qf rfl rfl (Qc rfl rfl (Qm rfl))
          refine Qs 12 [10] rfl rfl rfl rfl (by kernel_rfl) rfl ?_ ?_
          ·refine QA (dj := 65) rfl (decide_eq_false (fun hx => hx hA1.symm)) ?_
           exact Qf rfl rfl (Qi (o2 := 1) rfl rfl rfl (Qm rfl))
          refine Qs 13 [10, 12] rfl rfl rfl rfl (by kernel_rfl) rfl ?_ ?_
          ·refine QA (dj := 65) rfl (decide_eq_false (fun hx => hx hA1.symm)) ?_
           refine Qf rfl rfl (Qn rfl rfl (by rfl) ?_)
           exact Qm rfl
          exact AllF.nil
         ·refine QA (dj := 65) rfl (decide_eq_false (fun hx => hx hA1.symm)) ?_
          refine Qf rfl rfl (Qj rfl rfl (by repeat' constructor) (las_spec [own 79 5 aO cO lI.length (mCs lI)] lI aO cO Q6 (by omega)) ?_)
          rintro _ _ ⟨a9, c9, rfl, rfl⟩
          simp only [Qv]
          refine WpL.nil ⟨rfl, rfl, ?_⟩
          apply XY [⟨15, 70, _, [10, 13, 14], false⟩, ⟨16, 71, _, [10, 15], false⟩, ⟨17, 72, _, [10, 16], false⟩] 18 (by kernel_rfl) (.inl ⟨_, by repeat' constructor⟩) rfl rfl
          ·refine Ql 15 [10, 13, 14] rfl rfl rfl rfl (by kernel_rfl) rfl ?_ ?_
           ·refine QA (dj := 65) rfl (decide_eq_false (fun hx => hx hA1.symm)) ?_
            refine Qf rfl rfl (Qj rfl rfl (by repeat' constructor) (SameAll_true [own 71 5 a9 c9 lI.length (mCs lI), YN (lI.map fun r => own 92 1 r.2.1 r.2.2 r.1.px.length (Xy r.1.px)), own 71 5 aI cI lI.length (mCs lJ), YN (lJ.map fun r => own 92 1 r.2.1 r.2.2 r.1.px.length (Xy r.1.px))] lI lJ a9 aI c9 cI (hlI.trans hlJ.symm) Q6.head (Q6.ent (Take.ent' (pre := [own 71 5 aI cI lI.length (mCs lJ)]) (by repeat' constructor))) (fun r hr => (rc_row (row := Img.px) hr).ent (Take.ent' (by repeat' constructor))) (fun r hr => (rc_row (row := Img.px) hr).ent (Take.ent' (by repeat' constructor))) hmx (by omega)) ?_)
            rintro _ _ ⟨rfl, rfl⟩
            simp only [Qv]
            exact WpL.nil ⟨rfl, rfl, rfl, by exact Take.ent' (by repeat' constructor)⟩
           refine Ql 16 [10, 15] rfl rfl rfl rfl (by kernel_rfl) rfl ?_ ?_
           ·refine QA (dj := 65) rfl (decide_eq_false (fun hx => hx hA1.symm)) ?_
            exact Qf rfl rfl (Zz rfl rfl (Qm rfl))
           refine Ql 17 [10, 16] rfl rfl rfl rfl (by kernel_rfl) rfl ?_ ?_
           ·refine QA (dj := 65) rfl (decide_eq_false (fun hx => hx hA1.symm)) ?_
            exact Qu rfl rfl rfl (Qm rfl)
           exact AllF.nil
          ·refine QR rfl (Wp.skip (Qa (Qc rfl rfl (Qw rfl rfl rfl (Qp (by omega) (by omega)) ?_))))
           refine Qd rfl rfl (WpL.nil (Qq (i + 1) ?_ ?_ (by ((repeat (first | exact Top.refl | refine Top.push rfl ?_)); done)) (by repeat (first | exact FrLe.nil | refine FrLe.cons rfl ?_)) ?_))
           ·omega
           ·omega
           ·exact Take.ent' (by repeat' constructor)
  ·refine QS (Qb (Qa (Qj rfl rfl (by repeat' constructor) (llives_spec) ?_)))
   rintro _ _ ⟨rfl, rfl⟩
   simp only [Qv]
   refine Qd rfl rfl (WpL.nil (Qg ?_))
   apply RetQ.mk
   ·exact (Res.one rfl rfl)
   ·exact ⟨rfl, rfl⟩
   ·exact Ent.trans (Take.ent' (pre := [B]) (by repeat' constructor)) hBA

end Go.Proofs.YtggamdlpiejbiaaGreat
