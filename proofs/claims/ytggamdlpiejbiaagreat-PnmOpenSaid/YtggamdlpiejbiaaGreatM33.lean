/- Walks and plain laws, a part of the proof of PnmOpen: every input that the law's guards let in, no condition beside. -/
import Derived.Test.YtggamdlpiejbiaaGreatM32
namespace Go.Proofs.YtggamdlpiejbiaaGreat
open Go.RowKit Go.Shelf

theorem rds_txs {g T : Nat} {ts : List TxL} : RdsL [blk g (ts.map txV) T] (some ⟨g, 0, none⟩) (ts.map txV) := RdsL.blk (by rw [List.drop_zero, List.take_length])
theorem txv_at (ts : List TxL) {i : Nat} (h : i < ts.length) : (ts.map txV)[i]? = some (.slice ts[i].a ts[i].bs.length ts[i].c) := by rw [List.getElem?_map, List.getElem?_eq_getElem h]; rfl

set_option maxHeartbeats 1000000 in
theorem lOpen_spec (A0 : HP) (a0 : Option Addr) (c0 : Nat) (bs : List Int) (hA0 : RdsL [A0] a0 (u8s bs)) (hb0 : ∀ x ∈ bs, 0 ≤ x ∧ x ≤ 255) (hc0 : bs.length ≤ c0) (hbl : bs.length ≤ 9223372036854775807) (ga : Option Addr) (gc : Nat) (gs : List GS) (hgl : gs.length ≤ 9223372036854775807) (hG : RdsL [A0] ga (gs.flatMap gC)) (hgs : GsOk A0 gs) (ya : Option Addr) (yc : Nat) (ys : List Int) (hy : RdsL [A0] ya (ints ys)) (hyl : ys.length ≤ 9223372036854775807) (p cc q : Int) (hp : -9223372036854775808 ≤ p ∧ p < 9223372036854775808) (hcc : 0 ≤ cc ∧ cc ≤ 255) (hq : -9223372036854775808 ≤ q ∧ q < 9223372036854775808) (a b d : Int) : Fn Tryz.prog 3 #[.slice a0 bs.length c0, .agg #[.int .i64 a, .int .i64 b, .int .i64 d], .slice ga gs.length gc, .slice ya ys.length yc, .int .i64 p, .int .u8 cc, .int .i64 q] [A0] (fun v l => v = .bool true ∧ l = [A0]) := by
  refine Fn.intro (vs := [.slice a0 bs.length c0, .agg #[.int .i64 a, .int .i64 b, .int .i64 d], .slice ga gs.length gc, .slice ya ys.length yc, .int .i64 p, .int .u8 cc, .int .i64 q]) Tryz.func3 rfl Tryz.ntmps3 rfl ?_
  refine Wp.seq ?_
  refine Wp.region ?_
  refine s_box rfl rfl rfl ?_
  intro gL
  refine s_as rfl rfl ?_
  refine WpL.nil ?_
  refine Wp.seq ?_
  refine Wp.region ?_
  refine s_mv rfl rfl ?_
  refine s_mv rfl rfl ?_
  refine s_mv rfl rfl ?_
  refine s_mv rfl rfl ?_
  refine s_mv rfl rfl ?_
  refine s_mv rfl rfl ?_
  refine s_callf rfl rfl (by repeat' constructor) (lstream2_spec A0 a0 c0 bs hA0 hb0 hc0 hbl ga gc gs hgl hG hgs ya yc ys hy hyl p cc q hp hcc hq) ?_
  rintro _ _ ⟨ts, gT, B, hts4, htok, hBA, rfl, rfl⟩
  simp only [napp]
  refine s_as rfl rfl ?_
  refine WpL.nil ?_
  refine Wp.seq ?_
  refine Wp.seq ?_
  refine Wp.region ?_
  refine s_as rfl rfl ?_
  refine WpL.nil ?_
  refine Wp.block ?_
  refine Wp.loopD (σ := Nat) (fun i => i ≤ 4) [14, 16, 17, 18, 19, 20, 21, 22, 30, 31, 32, 33, 34, 35, 36, 37, 38, 39, 40, 41, 42, 43, 44, 45, 46, 47, 48, 49, 50, 51, 52, 53, 54, 55, 56, 57, 58, 59, 60, 61, 62, 63, 64, 65, 66, 67, 68, 69, 70, 71, 72, 73, 74, 75, 76, 77, 78, 79, 80, 81, 82, 83, 84, 85, 86, 87, 88, 89, 90, 91, 92, 93, 94, 95] (fun i => [(16, .int .i64 (i : Int))]) (fun i => [blk gT (ts.map txV) 22, B, blk gL [.int .i64 a, .int .i64 b, .int .i64 d] 24]) (fun i => 4 - i) 0 ?_ (by repeat (first | exact FrLe.nil | refine FrLe.cons rfl ?_)) ?_ ?_
  · exact Nat.zero_le _
  · exact Ent.refl _
  · rintro i hi
    refine Wp.seq ?_
    refine Wp.seq ?_
    refine Wp.region ?_
    refine s_mv rfl rfl ?_
    refine s_mv rfl rfl ?_
    refine s_lenl rfl rfl ?_
    refine s_lt rfl rfl rfl ?_
    refine WpL.nil ?_
    refine Wp.condD rfl (fun h1 => ?_) (fun h1 => ?_)
    · have hit : i < ts.length := by omega
      obtain ⟨htA, htb, htc, htl⟩ := htok _ (List.getElem_mem hit)
      refine Wp.skip ?_
      refine Wp.seq ?_
      refine Wp.block ?_
      refine Wp.seq ?_
      apply Wp.drawGA (fB := []) mixed 6 [(5, false), (0, true)] rfl rfl (by kernel_rfl)
      apply GoR.segF [⟨0, 36, _, [], false⟩, ⟨1, 37, _, [], false⟩, ⟨2, 38, _, [0, 1], false⟩, ⟨3, 39, _, [2], false⟩, ⟨4, 40, _, [], false⟩] [] [0, 1, 2, 3, 4] [17] (.inr rfl) rfl rfl rfl (by kernel_rfl) rfl rfl rfl
      · refine AllF.cons rfl rfl rfl rfl ?_ ?_
        · refine s_mv rfl rfl ?_
          exact obN rfl
        refine AllF.cons rfl rfl rfl rfl ?_ ?_
        · refine s_mv rfl rfl ?_
          exact obN rfl
        refine AllF.cons rfl rfl rfl rfl ?_ ?_
        · refine s_ixa i rfl rfl rfl (rds_txs (ts := ts)) (by first | exact Take.ent' (by repeat' constructor) | (repeat (first | exact Ent.refl _ | refine Ent.drop ?_))) (by omega) (by omega) (by rw [List.length_map]; exact hit) ?_
          exact obN rfl
        refine AllF.cons rfl rfl rfl rfl ?_ ?_
        · refine s_ldx rfl rfl (rds_txs (ts := ts)) (by first | exact Take.ent' (by repeat' constructor) | (repeat (first | exact Ent.refl _ | refine Ent.drop ?_))) (txv_at ts hit) ?_
          exact obN rfl
        refine AllF.cons rfl rfl rfl rfl ?_ ?_
        · refine s_lda (vs := [_, _, _]) rfl rfl rfl (by rfl) ?_
          exact obN rfl
        exact AllF.nil
      · refine s_callf rfl rfl (by repeat' constructor) (rStream_spec B ts[i].a ts[i].c ts[i].bs htA htb htc htl a b d false) ?_
        rintro _ _ ⟨aL, cL, aI, cI, s1, es, A1, hall, hA1, rfl, hel, rfl⟩
        simp only [napp]
        have hps : runF (lim0 a) (lim1 b) (lim2 d) ts[i].bs = (s1, (es.length : Int)) := by rw [runF_run]; have q := hall; unfold psAll psFin at q; rw [if_neg (by decide)] at q; rw [← q]
        refine WpL.nil ⟨rfl, rfl, ?_⟩
        apply GoR.segT [] [] [] [] (.inr rfl) rfl rfl rfl (by kernel_rfl) rfl rfl rfl rfl
        · exact AllF.nil
        · intro gS
          refine s_sta rfl rfl rfl (by rfl) rfl ?_
          refine WpL.nil ⟨rfl, rfl, ?_⟩
          apply GoR.nil [] (.inr rfl) rfl rfl
          · exact AllF.nil
          · refine Wp.seq ?_
            refine Wp.region ?_
            refine s_lda (vs := [_, _, _]) rfl rfl rfl (by rfl) ?_
            refine s_callf rfl rfl (by repeat' constructor) (pnNew_spec a b d) ?_
            rintro _ _ ⟨gP, rfl, rfl⟩
            simp only [napp]
            refine s_as rfl rfl ?_
            refine WpL.nil ?_
            refine Wp.seq ?_
            refine Wp.seq ?_
            refine Wp.region ?_
            refine s_mv rfl rfl ?_
            refine s_peq rfl Tryz.underlying35 rfl rfl ?_
            refine WpL.nil ?_
            refine Wp.condBF rfl rfl ?_
            refine Wp.skip ?_
            refine Wp.seq ?_
            refine Wp.region ?_
            refine s_as rfl rfl ?_
            refine WpL.nil ?_
            refine Wp.seq ?_
            refine Wp.seq ?_
            refine Wp.region ?_
            refine s_as rfl rfl ?_
            refine WpL.nil ?_
            refine Wp.block ?_
            refine Wp.loopD (σ := Nat) (fun k => k ≤ ts[i].bs.length) [19, 20, 46, 47, 48, 49, 50, 51, 52, 53, 54, 55, 56, 57, 58, 59, 60, 61, 62, 63, 64, 65, 66] (fun k => [(20, .int .i64 (k : Int)), (19, .int .i64 (runF (lim0 a) (lim1 b) (lim2 d) (ts[i].bs.take k)).2)]) (fun k => [psR gP a b d (runF (lim0 a) (lim1 b) (lim2 d) (ts[i].bs.take k)).1, blk gS [.slice aL es.length cL, .slice aI (imsO es).length cI, .int .i64 s1.e, .int .i64 A1, .int .i64 s1.told] 33, esR aL cL es, imR aI cI (imsO es), B, blk gT (ts.map txV) 22, blk gL [.int .i64 a, .int .i64 b, .int .i64 d] 24]) (fun k => ts[i].bs.length - k) 0 ?_ (by repeat (first | exact FrLe.nil | refine FrLe.cons rfl ?_)) ?_ ?_
            · exact Nat.zero_le _
            · exact Ent.refl _
            · rintro k hk
              have hI := runF_I a b d ts[i].bs htb k hk
              have hn0 := runF_pos (lim0 a) (lim1 b) (lim2 d) (ts[i].bs.take k)
              have hn1 := runF_take (lim0 a) (lim1 b) (lim2 d) ts[i].bs k
              rw [hps] at hn1
              dsimp only at hn1
              refine Wp.seq ?_
              refine Wp.seq ?_
              refine Wp.region ?_
              refine s_mv rfl rfl ?_
              refine s_mv rfl rfl ?_
              refine s_mv rfl rfl ?_
              refine s_ixa i rfl rfl rfl (rds_txs (ts := ts)) (by first | exact Take.ent' (by repeat' constructor) | (repeat (first | exact Ent.refl _ | refine Ent.drop ?_))) (by omega) (by omega) (by rw [List.length_map]; exact hit) ?_
              refine s_ldx rfl rfl (rds_txs (ts := ts)) (by first | exact Take.ent' (by repeat' constructor) | (repeat (first | exact Ent.refl _ | refine Ent.drop ?_))) (txv_at ts hit) ?_
              refine s_lenl rfl rfl ?_
              refine s_lt rfl rfl rfl ?_
              refine WpL.nil ?_
              refine Wp.condD rfl (fun h4 => ?_) (fun h4 => ?_)
              · have hlt : k < ts[i].bs.length := by omega
                have hcb := htb _ (List.getElem_mem hlt)
                have hsn := runF_snoc (lim0 a) (lim1 b) (lim2 d) (ts[i].bs.take k) ts[i].bs[k]
                rw [← take_snocG _ hlt] at hsn
                have hs1 := congrArg (·.1) hsn
                have hs2 := congrArg (·.2) hsn
                dsimp only at hs1 hs2
                have hn2 := runF_take (lim0 a) (lim1 b) (lim2 d) ts[i].bs (k + 1)
                rw [hps] at hn2
                dsimp only at hn2
                refine Wp.skip ?_
                refine Wp.seq ?_
                refine Wp.block ?_
                refine Wp.region ?_
                refine s_mv rfl rfl ?_
                refine s_mv rfl rfl ?_
                refine s_mv rfl rfl ?_
                refine s_mv rfl rfl ?_
                refine s_ixa i rfl rfl rfl (rds_txs (ts := ts)) (by first | exact Take.ent' (by repeat' constructor) | (repeat (first | exact Ent.refl _ | refine Ent.drop ?_))) (by omega) (by omega) (by rw [List.length_map]; exact hit) ?_
                refine s_ldx rfl rfl (rds_txs (ts := ts)) (by first | exact Take.ent' (by repeat' constructor) | (repeat (first | exact Ent.refl _ | refine Ent.drop ?_))) (txv_at ts hit) ?_
                refine s_mv rfl rfl ?_
                refine s_ixa k rfl rfl rfl htA (by first | exact Take.ent' (by repeat' constructor) | (repeat (first | exact Ent.refl _ | refine Ent.drop ?_))) rfl (by omega) (by rw [u8s_len]; exact hlt) ?_
                refine s_ldx rfl rfl htA (by first | exact Take.ent' (by repeat' constructor) | (repeat (first | exact Ent.refl _ | refine Ent.drop ?_))) (u8s_at ts[i].bs hlt) ?_
                refine s_callf rfl rfl (by repeat' constructor) (psPut_rep gP a b d _ _ (by omega) hI _ (by omega) (by omega)) ?_
                rintro _ _ rfl
                simp only [napp]
                refine WpL.exs (Take1.there Take1.here) fun pv => ?_
                refine WpL.pur Take1.here fun hv => ?_
                obtain ⟨aE, cE, aR, cR⟩ := pv
                dsimp only at hv
                subst hv
                refine s_lenl rfl rfl ?_
                first | refine s_add rfl rfl rfl (w_i64 (by omega) (by omega)) ?_ | refine s_addw rfl rfl rfl ?_
                refine s_as rfl rfl ?_
                refine WpL.nil ?_
                refine Wp.region ?_
                refine s_mv rfl rfl ?_
                first | refine s_add rfl rfl rfl (w_i64 (by omega) (by omega)) ?_ | refine s_addw rfl rfl rfl ?_
                refine s_as rfl rfl ?_
                refine WpL.nil ?_
                refine loopD.next (k + 1) ?_ ?_ (by first | ((repeat (first | exact Top.refl | refine Top.push rfl ?_ | refine Top.drop rfl ?_)); done) | exact Top.le (by repeat (first | exact FrLe.nil | refine FrLe.cons rfl ?_))) (FrLe.cons rfl (FrLe.cons (by exact congrArg (fun z => some (Value.int .i64 z)) hs2.symm) FrLe.nil)) ?_
                · omega
                · omega
                · rw [hs1]
                  first | exact Ent.refl _ | exact Take.ent' (by repeat' constructor)
              · obtain rfl : k = ts[i].bs.length := by omega
                rw [List.take_length, hps]
                dsimp only
                refine Wp.exit ?_
                refine Wp.seq ?_
                refine Wp.region ?_
                refine s_mv rfl rfl ?_
                refine s_callf rfl rfl (by repeat' constructor) (psError_rep gP a b d _) ?_
                rintro _ _ ⟨rfl, rfl⟩
                simp only [napp]
                refine s_mv rfl rfl ?_
                refine s_ext rfl rfl rfl ?_
                refine s_ext rfl rfl rfl ?_
                refine s_as rfl rfl ?_
                refine s_as rfl rfl ?_
                refine WpL.nil ?_
                refine Wp.seq ?_
                apply Wp.draw mixed [⟨72, _, []⟩, ⟨73, _, []⟩, ⟨74, _, [1]⟩, ⟨75, _, [2]⟩, ⟨76, _, [0, 3]⟩, ⟨77, _, [4]⟩, ⟨78, _, [5]⟩, ⟨79, _, [5]⟩, ⟨80, _, [7, 5]⟩, ⟨81, _, [6, 8, 5]⟩, ⟨82, _, [5, 9]⟩, ⟨83, _, [10, 5]⟩, ⟨84, _, [11]⟩, ⟨85, _, [11]⟩, ⟨86, _, [13, 11]⟩, ⟨87, _, [12, 14, 11]⟩, ⟨88, _, [11, 15]⟩, ⟨89, _, [16, 11]⟩, ⟨90, _, [17]⟩, ⟨91, _, [18, 17]⟩, ⟨92, _, [17]⟩, ⟨93, _, [20, 17]⟩, ⟨94, _, [19, 21, 17]⟩, ⟨95, _, [17, 22]⟩] rfl
                · refine AllObs.mk ?_ ?_
                  · refine s_mv rfl rfl ?_
                    exact obN rfl
                  refine AllObs.mk ?_ ?_
                  · refine s_fa (o2 := 0) rfl rfl rfl ?_
                    exact obN rfl
                  refine AllObs.mk ?_ ?_
                  · refine s_ld rfl rfl (by rfl) ?_
                    exact obN rfl
                  refine AllObs.mk ?_ ?_
                  · refine s_lenl rfl rfl ?_
                    exact WpL.nil ⟨rfl, rfl, rfl, by first | exact Ent.refl _ | exact Ent.nil _ | exact Take.ent' (by repeat' constructor) | (repeat (first | exact Ent.refl _ | refine Ent.drop ?_))⟩
                  refine AllObs.mk ?_ ?_
                  · refine s_ne rfl rfl rfl ?_
                    exact obN rfl
                  refine AllObs.mk ?_ ?_
                  · refine s_mv rfl rfl ?_
                    exact obN rfl
                  refine AllObs.mk ?_ ?_
                  · refine WpL.knowF (dj := 77) rfl (decide_eq_false (by omega)) ?_
                    refine WpL.gon rfl rfl ?_
                    refine s_mv rfl rfl ?_
                    exact obN rfl
                  refine AllObs.mk ?_ ?_
                  · refine WpL.knowF (dj := 77) rfl (decide_eq_false (by omega)) ?_
                    refine WpL.gon rfl rfl ?_
                    refine s_fa (o2 := 2) rfl rfl rfl ?_
                    exact obN rfl
                  refine AllObs.mk ?_ ?_
                  · refine WpL.knowF (dj := 77) rfl (decide_eq_false (by omega)) ?_
                    refine WpL.gon rfl rfl ?_
                    refine s_ld rfl rfl (by rfl) ?_
                    exact obN rfl
                  refine AllObs.mk ?_ ?_
                  · refine WpL.knowF (dj := 77) rfl (decide_eq_false (by omega)) ?_
                    refine WpL.gon rfl rfl ?_
                    refine s_ne rfl rfl rfl ?_
                    exact obN rfl
                  refine AllObs.mk ?_ ?_
                  · refine WpL.knowF (dj := 77) rfl (decide_eq_false (by omega)) ?_
                    refine s_pickF rfl rfl rfl ?_
                    exact obN rfl
                  refine AllObs.mk ?_ ?_
                  · refine s_mv rfl rfl ?_
                    exact obN rfl
                  refine AllObs.mk ?_ ?_
                  · refine WpL.knowF (dj := 83) rfl (decide_eq_false (fun hx => hx (by by_cases h : s1.e = 0 <;> simp [h]))) ?_
                    refine WpL.gon rfl rfl ?_
                    refine s_mv rfl rfl ?_
                    exact obN rfl
                  refine AllObs.mk ?_ ?_
                  · refine WpL.knowF (dj := 83) rfl (decide_eq_false (fun hx => hx (by by_cases h : s1.e = 0 <;> simp [h]))) ?_
                    refine WpL.gon rfl rfl ?_
                    refine s_fa (o2 := 3) rfl rfl rfl ?_
                    exact obN rfl
                  refine AllObs.mk ?_ ?_
                  · refine WpL.knowF (dj := 83) rfl (decide_eq_false (fun hx => hx (by by_cases h : s1.e = 0 <;> simp [h]))) ?_
                    refine WpL.gon rfl rfl ?_
                    refine s_ld rfl rfl (by rfl) ?_
                    exact obN rfl
                  refine AllObs.mk ?_ ?_
                  · refine WpL.knowF (dj := 83) rfl (decide_eq_false (fun hx => hx (by by_cases h : s1.e = 0 <;> simp [h]))) ?_
                    refine WpL.gon rfl rfl ?_
                    refine s_ne rfl rfl rfl ?_
                    exact obN rfl
                  refine AllObs.mk ?_ ?_
                  · refine WpL.knowF (dj := 83) rfl (decide_eq_false (fun hx => hx (by by_cases h : s1.e = 0 <;> simp [h]))) ?_
                    refine s_pickF rfl rfl rfl ?_
                    exact obN rfl
                  refine AllObs.mk ?_ ?_
                  · refine s_mv rfl rfl ?_
                    exact obN rfl
                  refine AllObs.mk ?_ ?_
                  · refine WpL.knowF (dj := 89) rfl (decide_eq_false (fun hx => hx hA1.symm)) ?_
                    refine WpL.gon rfl rfl ?_
                    refine s_mv rfl rfl ?_
                    exact obN rfl
                  refine AllObs.mk ?_ ?_
                  · refine WpL.knowF (dj := 89) rfl (decide_eq_false (fun hx => hx hA1.symm)) ?_
                    refine WpL.gon rfl rfl ?_
                    refine s_callf rfl rfl (by repeat' constructor) (psTold_rep gP a b d _) ?_
                    rintro _ _ ⟨rfl, rfl⟩
                    simp only [napp]
                    exact WpL.nil ⟨rfl, rfl, rfl, by first | exact Ent.refl _ | exact Ent.nil _ | exact Take.ent' (by repeat' constructor) | (repeat (first | exact Ent.refl _ | refine Ent.drop ?_))⟩
                  refine AllObs.mk ?_ ?_
                  · refine WpL.knowF (dj := 89) rfl (decide_eq_false (fun hx => hx hA1.symm)) ?_
                    refine WpL.gon rfl rfl ?_
                    refine s_fa (o2 := 4) rfl rfl rfl ?_
                    exact obN rfl
                  refine AllObs.mk ?_ ?_
                  · refine WpL.knowF (dj := 89) rfl (decide_eq_false (fun hx => hx hA1.symm)) ?_
                    refine WpL.gon rfl rfl ?_
                    refine s_ld rfl rfl (by rfl) ?_
                    exact obN rfl
                  refine AllObs.mk ?_ ?_
                  · refine WpL.knowF (dj := 89) rfl (decide_eq_false (fun hx => hx hA1.symm)) ?_
                    refine WpL.gon rfl rfl ?_
                    refine s_ne rfl rfl rfl ?_
                    exact obN rfl
                  refine AllObs.mk ?_ ?_
                  · refine WpL.knowF (dj := 89) rfl (decide_eq_false (fun hx => hx hA1.symm)) ?_
                    refine s_pickF rfl rfl rfl ?_
                    exact obN rfl
                  exact AllObs.nil
                · refine Wp.condDF rfl (by omega) ?_
                  refine Wp.skip ?_
                  refine Wp.region ?_
                  refine s_mv rfl rfl ?_
                  first | refine s_add rfl rfl rfl (w_i64 (by omega) (by omega)) ?_ | refine s_addw rfl rfl rfl ?_
                  refine s_as rfl rfl ?_
                  refine WpL.nil ?_
                  refine loopD.next (i + 1) ?_ ?_ (by first | ((repeat (first | exact Top.refl | refine Top.push rfl ?_ | refine Top.drop rfl ?_)); done) | exact Top.le (by repeat (first | exact FrLe.nil | refine FrLe.cons rfl ?_))) (by repeat (first | exact FrLe.nil | refine FrLe.cons rfl ?_)) ?_
                  · omega
                  · omega
                  · first | exact Ent.refl _ | exact Ent.nil _ | exact Take.ent' (by repeat' constructor) | (repeat (first | exact Ent.refl _ | refine Ent.drop ?_))
    · refine Wp.exit ?_
      refine Wp.seq ?_
      refine Wp.region ?_
      refine s_callf rfl rfl (by repeat' constructor) (llives_spec) ?_
      rintro _ _ ⟨rfl, rfl⟩
      simp only [napp]
      refine s_as rfl rfl ?_
      refine WpL.nil ?_
      refine Wp.ret ?_
      apply RetQ.mk
      · exact (Res.one rfl rfl)
      · exact ⟨rfl, rfl⟩
      · exact Ent.trans (Take.ent' (pre := [B]) (by repeat' constructor)) hBA

end Go.Proofs.YtggamdlpiejbiaaGreat
