/- Walks and plain laws, a part of the proof of PnmOpen: every input that the law's guards let in, no condition beside. -/
import Derived.Test.YtggamdlpiejbiaaGreatM28
namespace Go.Proofs.YtggamdlpiejbiaaGreat
open Go.RowKit Go.Shelf


theorem gd_step2 {xs : List Int} {f : Int → Int} {n k : Nat} (h : k < xs.length) (hn : k < n) : (ints ((xs.take k).map f) ++ List.replicate (n - k) (Value.int .i64 0)).set (0 + k * 1) (.int .i64 (f xs[k])) = ints ((xs.take (k + 1)).map f) ++ List.replicate (n - (k + 1)) (Value.int .i64 0) := by
  rw [take_snoc' xs h, List.map_append, List.map_cons, List.map_nil, ← ints_snoc]
  have hl : (ints ((xs.take k).map f)).length = k := by rw [ints_len, List.length_map, List.length_take]; omega
  rw [List.set_append_right _ _ (by omega), hl, show 0 + k * 1 - k = 0 by omega, show n - k = (n - (k + 1)) + 1 by omega, List.replicate_succ, List.set_cons_zero, List.append_assoc]
  rfl

theorem GoodPx3_spec (As : List HP) (a : Option Addr) (c : Nat) (xs : List Int) (ch mx : Int) (hA : RdsL As a (ints xs)) (hr : ∀ x ∈ xs, -9223372036854775808 ≤ x ∧ x < 9223372036854775808) (hl : ch ≤ (xs.length : Int)) (hc : ch = 1 ∨ ch = 3) (hm : 1 ≤ mx) (hm2 : mx ≤ 65535) : Fn Tryz.prog 72 #[.slice a xs.length c, .agg #[.int .i64 ch, .int .i64 mx]] As (fun v l => v = .int .u64 (packS ((xs.take ch.toNat).map (fun x => aroundI x (mx + 1)))).1 ∧ l = As) := by
  generalize hys : (xs.take ch.toNat).map (fun x => aroundI x (mx + 1)) = ys
  have hyl : ys.length = ch.toNat := by rw [← hys, List.length_map, List.length_take]; omega
  refine Fn.intro (vs := [.slice a xs.length c, .agg #[.int .i64 ch, .int .i64 mx]]) Tryz.func72 rfl Tryz.ntmps72 rfl ?_
  refine Wp.seq ?_
  refine Wp.region ?_
  refine s_box rfl rfl rfl ?_
  intro g1
  refine s_as rfl rfl ?_
  refine WpL.nil ?_
  refine Wp.seq ?_
  refine Wp.region ?_
  refine s_fa (o2 := 0) rfl rfl rfl ?_
  refine s_ld rfl rfl (by rfl) ?_
  refine s_mkF rfl rfl (by omega) (by omega) (by omega) rfl ?_
  intro gO
  refine s_as rfl rfl ?_
  refine WpL.nil ?_
  refine Wp.seq ?_
  refine Wp.seq ?_
  refine Wp.region ?_
  refine s_as rfl rfl ?_
  refine WpL.nil ?_
  refine Wp.block ?_
  refine Wp.loopD (σ := Nat) (fun k => k ≤ ch.toNat) [6, 12, 13, 14, 15, 16, 17, 18, 19, 20, 21, 22, 23, 24, 25, 26, 27, 28, 29, 30, 31, 32, 33, 34] (fun k => [(6, .int .i64 (k : Int))]) (fun k => (blk gO (ints ((xs.take k).map (fun x => aroundI x (mx + 1))) ++ List.replicate (ch.toNat - k) (Value.int .i64 0)) 3) :: (blk g1 [.int .i64 ch, .int .i64 mx] 48) :: As) (fun k => ch.toNat - k) 0 ?_ (by repeat (first | exact FrLe.nil | refine FrLe.cons rfl ?_)) ?_ ?_
  · exact Nat.zero_le _
  · rw [List.take_zero, Nat.sub_zero]
    exact Ent.refl _
  · rintro k hk
    refine Wp.seq ?_
    refine Wp.seq ?_
    refine Wp.region ?_
    refine s_mv rfl rfl ?_
    refine s_mv rfl rfl ?_
    refine s_lenl rfl rfl ?_
    refine s_lt rfl rfl rfl ?_
    refine s_mv rfl rfl ?_
    refine WpL.grd rfl rfl rfl (fun hg1 => ?_) (fun hg1 => ?_)
    · have hg1 := of_decide_eq_true hg1
      refine s_mv rfl rfl ?_
      refine WpL.gon rfl rfl ?_
      refine s_mv rfl rfl ?_
      refine WpL.gon rfl rfl ?_
      refine s_lenl rfl rfl ?_
      refine WpL.gon rfl rfl ?_
      refine s_lt rfl rfl rfl ?_
      refine s_pickT rfl rfl rfl ?_
      refine WpL.nil ?_
      refine Wp.condD rfl (fun h1 => ?_) (fun h1 => ?_)
      · have hlt : k < xs.length := by omega
        have hlc : k < ch.toNat := by omega
        refine Wp.skip ?_
        refine Wp.seq ?_
        refine Wp.block ?_
        apply Wp.drawGN (fB := []) mixed [(11, false)] (by kernel_rfl)
        apply GoR.segF [⟨0, 24, _, [], false⟩, ⟨1, 25, _, [], false⟩, ⟨2, 26, _, [], false⟩, ⟨3, 27, _, [], false⟩, ⟨4, 28, _, [2, 3], false⟩, ⟨5, 29, _, [4], false⟩, ⟨6, 30, _, [], false⟩, ⟨7, 31, _, [6], false⟩, ⟨8, 32, _, [7], false⟩, ⟨9, 33, _, [5, 8], false⟩, ⟨10, 34, _, [0, 1, 2, 3, 4, 5, 6, 7, 8, 9], false⟩] [] [0, 1, 2, 3, 4, 5, 6, 7, 8, 9, 10] [] (.inr rfl) rfl rfl rfl (by kernel_rfl) rfl rfl rfl
        · refine AllF.cons rfl rfl rfl rfl ?_ ?_
          · refine s_mv rfl rfl ?_
            exact obN rfl
          refine AllF.cons rfl rfl rfl rfl ?_ ?_
          · refine s_mv rfl rfl ?_
            exact obN rfl
          refine AllF.cons rfl rfl rfl rfl ?_ ?_
          · refine s_mv rfl rfl ?_
            exact obN rfl
          refine AllF.cons rfl rfl rfl rfl ?_ ?_
          · refine s_mv rfl rfl ?_
            exact obN rfl
          refine AllF.cons rfl rfl rfl rfl ?_ ?_
          · refine s_ixa k rfl rfl rfl hA (by first | exact Take.ent' (by repeat' constructor) | (repeat (first | exact Ent.refl _ | refine Ent.drop ?_))) rfl (by omega) (by rw [ints_len]; omega) ?_
            exact obN rfl
          refine AllF.cons rfl rfl rfl rfl ?_ ?_
          · refine s_ldx rfl rfl hA (by first | exact Take.ent' (by repeat' constructor) | (repeat (first | exact Ent.refl _ | refine Ent.drop ?_))) (ints_at xs hlt) ?_
            exact obN rfl
          refine AllF.cons rfl rfl rfl rfl ?_ ?_
          · refine s_fa (o2 := 1) rfl rfl rfl ?_
            exact obN rfl
          refine AllF.cons rfl rfl rfl rfl ?_ ?_
          · refine s_ld rfl rfl (by rfl) ?_
            exact obN rfl
          refine AllF.cons rfl rfl rfl rfl ?_ ?_
          · first | refine s_add rfl rfl rfl (w_i64 (by omega) (by omega)) ?_ | refine s_addw rfl rfl rfl ?_
            exact obN rfl
          refine AllF.cons rfl rfl rfl rfl ?_ ?_
          · refine s_callf rfl rfl (by repeat' constructor) (Around_spec _ _ (hr _ (List.getElem_mem hlt)).1 (hr _ (List.getElem_mem hlt)).2 (by omega)) ?_
            rintro _ _ ⟨rfl, rfl⟩
            simp only [napp]
            exact WpL.nil ⟨rfl, rfl, rfl, by first | exact Ent.refl _ | exact Ent.nil _ | exact Take.ent' (by repeat' constructor) | (repeat (first | exact Ent.refl _ | refine Ent.drop ?_))⟩
          refine AllF.cons rfl rfl rfl rfl ?_ ?_
          · refine s_ixA (k := k) rfl rfl rfl (by omega) ?_
            exact obN rfl
          exact AllF.nil
        · refine s_stk rfl rfl rfl (by simp [ints_len]; omega) ?_
          rw [gd_step2 hlt hlc]
          refine WpL.nil ⟨rfl, rfl, ?_⟩
          apply GoR.nil [] (.inr rfl) rfl rfl
          · exact AllF.nil
          · refine Wp.region ?_
            refine s_mv rfl rfl ?_
            first | refine s_add rfl rfl rfl (w_i64 (by omega) (by omega)) ?_ | refine s_addw rfl rfl rfl ?_
            refine s_as rfl rfl ?_
            refine WpL.nil ?_
            refine loopD.next (k + 1) ?_ ?_ (by first | ((repeat (first | exact Top.refl | refine Top.push rfl ?_ | refine Top.drop rfl ?_)); done) | exact Top.le (by repeat (first | exact FrLe.nil | refine FrLe.cons rfl ?_))) (by repeat (first | exact FrLe.nil | refine FrLe.cons rfl ?_)) ?_
            · omega
            · omega
            · first | exact Ent.refl _ | exact Ent.nil _ | exact Take.ent' (by repeat' constructor) | (repeat (first | exact Ent.refl _ | refine Ent.drop ?_))
      · refine Wp.exit ?_
        refine Wp.seq ?_
        refine Wp.region ?_
        refine s_mv rfl rfl ?_
        have hke : k = ch.toNat := by omega
        rw [show ints ((xs.take k).map (fun x => aroundI x (mx + 1))) ++ List.replicate (ch.toNat - k) (Value.int .i64 0) = ints ys by rw [hke, Nat.sub_self, hys]; simp, ← hyl]
        refine s_callf rfl rfl (by repeat' constructor) (rPack_spec [_] _ _ ys (RdsL.blk (by rw [List.drop_zero, ints_len, ← ints_len, List.take_length])) (by omega)) ?_
        rintro _ _ ⟨rfl, rfl⟩
        simp only [napp]
        refine s_mv rfl rfl ?_
        refine s_ext rfl rfl rfl ?_
        refine s_ext rfl rfl rfl ?_
        refine s_as rfl rfl ?_
        refine s_as rfl rfl ?_
        refine WpL.nil ?_
        refine Wp.seq ?_
        refine Wp.region ?_
        refine s_mv rfl rfl ?_
        refine s_as rfl rfl ?_
        refine WpL.nil ?_
        refine Wp.ret ?_
        apply RetQ.mk
        · exact (Res.one rfl rfl)
        · exact ⟨rfl, rfl⟩
        · first | exact Ent.refl _ | exact Ent.nil _ | exact Take.ent' (by repeat' constructor) | (repeat (first | exact Ent.refl _ | refine Ent.drop ?_))
    · have hg1 := of_decide_eq_false hg1
      refine WpL.goff rfl rfl rfl (by decide) ?_
      refine WpL.goff rfl rfl rfl (by decide) ?_
      refine WpL.goff rfl rfl rfl (by decide) ?_
      refine s_pickF rfl rfl rfl ?_
      refine WpL.nil ?_
      refine Wp.condF rfl ?_
      refine Wp.exit ?_
      refine Wp.seq ?_
      refine Wp.region ?_
      refine s_mv rfl rfl ?_
      have hke : k = ch.toNat := by omega
      rw [show ints ((xs.take k).map (fun x => aroundI x (mx + 1))) ++ List.replicate (ch.toNat - k) (Value.int .i64 0) = ints ys by rw [hke, Nat.sub_self, hys]; simp, ← hyl]
      refine s_callf rfl rfl (by repeat' constructor) (rPack_spec [_] _ _ ys (RdsL.blk (by rw [List.drop_zero, ints_len, ← ints_len, List.take_length])) (by omega)) ?_
      rintro _ _ ⟨rfl, rfl⟩
      simp only [napp]
      refine s_mv rfl rfl ?_
      refine s_ext rfl rfl rfl ?_
      refine s_ext rfl rfl rfl ?_
      refine s_as rfl rfl ?_
      refine s_as rfl rfl ?_
      refine WpL.nil ?_
      refine Wp.seq ?_
      refine Wp.region ?_
      refine s_mv rfl rfl ?_
      refine s_as rfl rfl ?_
      refine WpL.nil ?_
      refine Wp.ret ?_
      apply RetQ.mk
      · exact (Res.one rfl rfl)
      · exact ⟨rfl, rfl⟩
      · first | exact Ent.refl _ | exact Ent.nil _ | exact Take.ent' (by repeat' constructor) | (repeat (first | exact Ent.refl _ | refine Ent.drop ?_))

end Go.Proofs.YtggamdlpiejbiaaGreat
namespace Go.Proofs.YtggamdlpiejbiaaGreat
open Go.RowKit Go.Shelf


def selM (mx : Int) : Int := if mx = 0 ∨ mx = 1 then 1 else if mx = 2 then 2 else if mx = 3 then 255 else 300
theorem selM_at {mx : Int} (h0 : 0 ≤ mx) (h1 : mx < 5) : ([Value.int .i64 1, .int .i64 1, .int .i64 2, .int .i64 255, .int .i64 300])[mx.toNat]? = some (.int .i64 (selM mx)) := by
  obtain rfl | rfl | rfl | rfl | rfl : mx = 0 ∨ mx = 1 ∨ mx = 2 ∨ mx = 3 ∨ mx = 4 := by omega
  all_goals rfl
theorem selM_bd (mx : Int) : 1 ≤ selM mx ∧ selM mx ≤ 300 := by
  unfold selM
  repeat' split
  all_goals omega
/-- What is made of any numbers: an image that may be. -/
def GoodI (most : Int) (m : Img) : Prop := (m.c = 1 ∨ m.c = 3) ∧ (1 ≤ m.m ∧ m.m ≤ 65535) ∧ (1 ≤ m.w ∧ m.w ≤ most) ∧ (1 ≤ m.h ∧ m.h ≤ most) ∧ (m.px.length : Int) = m.w * m.h ∧ ∀ p ∈ m.px, Can m.c m.m p ∧ 0 ≤ p ∧ p < 18446744073709551616
structure GdX where
  (k : Nat) (out : List Int) (a : Option Addr) (c : Nat)

theorem rForm_spec (three : Bool) (mx w h : Int) (ga : Option Addr) (gc gn : Nat) (hmx : -9223372036854775808 ≤ mx ∧ mx < 9223372036854775808) (hgw : -9223372036854775808 ≤ w ∧ w < 9223372036854775808) (hgh : -9223372036854775808 ≤ h ∧ h < 9223372036854775808) : Fn Tryz.prog 71 #[.agg #[.bool three, .int .i64 mx, .int .i64 w, .int .i64 h, .slice ga gn gc]] [] (fun v l => ∃ C M, (C = 1 ∨ C = 3) ∧ (1 ≤ M ∧ M ≤ 65535) ∧ v = .agg #[.int .i64 C, .int .i64 M] ∧ l = []) := by
  have hab := aroundI_bd (x := mx) (m := 65535) (by omega)
  have hsm := selM_bd mx
  refine Fn.intro (vs := [.agg #[.bool three, .int .i64 mx, .int .i64 w, .int .i64 h, .slice ga gn gc]]) Tryz.func71 rfl Tryz.ntmps71 rfl ?_
  refine Wp.seq ?_
  refine Wp.region ?_
  refine s_box rfl rfl rfl ?_
  intro g1
  refine s_al rfl ?_
  intro g2
  refine WpL.nil ?_
  refine Wp.seq ?_
  refine Wp.region ?_
  refine s_bs [Value.int .i64 1, .int .i64 1, .int .i64 2, .int .i64 255, .int .i64 300] rfl rfl rfl (by intro v hv; simp only [List.mem_cons, List.not_mem_nil, or_false] at hv; rcases hv with rfl | rfl | rfl | rfl | rfl <;> rfl) (by decide) (fun _ _ => rfl) ?_
  intro g5
  refine s_as rfl rfl ?_
  refine WpL.nil ?_
  refine Wp.seq ?_
  refine Wp.region ?_
  refine s_fa (o2 := 1) rfl rfl rfl ?_
  refine s_ld rfl rfl (by rfl) ?_
  refine s_callf rfl rfl (by repeat' constructor) (Around_spec _ _ hmx.1 hmx.2 (by omega)) ?_
  rintro _ _ ⟨rfl, rfl⟩
  simp only [napp]
  first | refine s_add rfl rfl rfl (w_i64 (by omega) (by omega)) ?_ | refine s_addw rfl rfl rfl ?_
  refine s_bd rfl rfl ?_
  refine s_al rfl ?_
  intro g3
  refine s_sta rfl rfl rfl (by rfl) rfl ?_
  refine WpL.nil ?_
  refine Wp.seq ?_
  refine Wp.seq ?_
  refine Wp.region ?_
  refine s_fa (o2 := 1) rfl rfl rfl ?_
  refine s_ld rfl rfl (by rfl) ?_
  refine s_ge rfl rfl rfl ?_
  refine s_mv rfl rfl ?_
  refine WpL.grd rfl rfl rfl (fun hg1 => ?_) (fun hg1 => ?_)
  · have hg1 := of_decide_eq_true hg1
    refine s_fa (o2 := 1) rfl rfl rfl ?_
    refine WpL.gon rfl rfl ?_
    refine s_ld rfl rfl (by rfl) ?_
    refine WpL.gon rfl rfl ?_
    refine s_lt rfl rfl rfl ?_
    refine s_pickT rfl rfl rfl ?_
    refine WpL.nil ?_
    refine Wp.condD rfl (fun h0 => ?_) (fun h0 => ?_)
    · refine Wp.region ?_
      refine s_mv rfl rfl ?_
      refine s_fa (o2 := 1) rfl rfl rfl ?_
      refine s_ld rfl rfl (by rfl) ?_
      refine s_ixa mx.toNat rfl rfl rfl (RdsL.blk (o := 0) (xs := [Value.int .i64 1, .int .i64 1, .int .i64 2, .int .i64 255, .int .i64 300]) rfl) (by first | exact Take.ent' (by repeat' constructor) | (repeat (first | exact Ent.refl _ | refine Ent.drop ?_))) (by omega) (by omega) (by simp only [List.length_cons, List.length_nil]; omega) ?_
      refine s_ldx rfl rfl (RdsL.blk (o := 0) (xs := [Value.int .i64 1, .int .i64 1, .int .i64 2, .int .i64 255, .int .i64 300]) rfl) (by first | exact Take.ent' (by repeat' constructor) | (repeat (first | exact Ent.refl _ | refine Ent.drop ?_))) (selM_at (by omega) (by omega)) ?_
      refine s_fa (o2 := 1) rfl rfl rfl ?_
      refine s_st rfl rfl rfl ?_
      refine WpL.nil ?_
      refine Wp.seq ?_
      refine Wp.seq ?_
      refine Wp.region ?_
      refine s_fa (o2 := 0) rfl rfl rfl ?_
      refine s_ld rfl rfl (by rfl) ?_
      refine WpL.nil ?_
      refine Wp.cond rfl (fun h1 => ?_) (fun h1 => ?_)
      · refine Wp.region ?_
        refine s_fa (o2 := 0) rfl rfl rfl ?_
        refine s_st rfl rfl rfl ?_
        refine WpL.nil ?_
        refine Wp.seq ?_
        refine Wp.region ?_
        refine s_lda (vs := [_, _]) rfl rfl rfl (by rfl) ?_
        refine s_sta rfl rfl rfl (by rfl) rfl ?_
        refine WpL.nil ?_
        refine Wp.ret ?_
        apply RetQ.mk
        · exact (RetQ.cell rfl rfl (by rfl))
        · first | exact ⟨3, _, .inr rfl, by omega, rfl, rfl⟩ | exact ⟨1, _, .inl rfl, by omega, rfl, rfl⟩
        · exact Ent.nil _
      · refine Wp.skip ?_
        refine Wp.seq ?_
        refine Wp.region ?_
        refine s_lda (vs := [_, _]) rfl rfl rfl (by rfl) ?_
        refine s_sta rfl rfl rfl (by rfl) rfl ?_
        refine WpL.nil ?_
        refine Wp.ret ?_
        apply RetQ.mk
        · exact (RetQ.cell rfl rfl (by rfl))
        · first | exact ⟨3, _, .inr rfl, by omega, rfl, rfl⟩ | exact ⟨1, _, .inl rfl, by omega, rfl, rfl⟩
        · exact Ent.nil _
    · refine Wp.skip ?_
      refine Wp.seq ?_
      refine Wp.seq ?_
      refine Wp.region ?_
      refine s_fa (o2 := 0) rfl rfl rfl ?_
      refine s_ld rfl rfl (by rfl) ?_
      refine WpL.nil ?_
      refine Wp.cond rfl (fun h1 => ?_) (fun h1 => ?_)
      · refine Wp.region ?_
        refine s_fa (o2 := 0) rfl rfl rfl ?_
        refine s_st rfl rfl rfl ?_
        refine WpL.nil ?_
        refine Wp.seq ?_
        refine Wp.region ?_
        refine s_lda (vs := [_, _]) rfl rfl rfl (by rfl) ?_
        refine s_sta rfl rfl rfl (by rfl) rfl ?_
        refine WpL.nil ?_
        refine Wp.ret ?_
        apply RetQ.mk
        · exact (RetQ.cell rfl rfl (by rfl))
        · first | exact ⟨3, _, .inr rfl, by omega, rfl, rfl⟩ | exact ⟨1, _, .inl rfl, by omega, rfl, rfl⟩
        · exact Ent.nil _
      · refine Wp.skip ?_
        refine Wp.seq ?_
        refine Wp.region ?_
        refine s_lda (vs := [_, _]) rfl rfl rfl (by rfl) ?_
        refine s_sta rfl rfl rfl (by rfl) rfl ?_
        refine WpL.nil ?_
        refine Wp.ret ?_
        apply RetQ.mk
        · exact (RetQ.cell rfl rfl (by rfl))
        · first | exact ⟨3, _, .inr rfl, by omega, rfl, rfl⟩ | exact ⟨1, _, .inl rfl, by omega, rfl, rfl⟩
        · exact Ent.nil _
  · have hg1 := of_decide_eq_false hg1
    refine WpL.goff rfl rfl rfl (by decide) ?_
    refine WpL.goff rfl rfl rfl (by decide) ?_
    refine s_pickF rfl rfl rfl ?_
    refine WpL.nil ?_
    refine Wp.condF rfl ?_
    refine Wp.skip ?_
    refine Wp.seq ?_
    refine Wp.seq ?_
    refine Wp.region ?_
    refine s_fa (o2 := 0) rfl rfl rfl ?_
    refine s_ld rfl rfl (by rfl) ?_
    refine WpL.nil ?_
    refine Wp.cond rfl (fun h1 => ?_) (fun h1 => ?_)
    · refine Wp.region ?_
      refine s_fa (o2 := 0) rfl rfl rfl ?_
      refine s_st rfl rfl rfl ?_
      refine WpL.nil ?_
      refine Wp.seq ?_
      refine Wp.region ?_
      refine s_lda (vs := [_, _]) rfl rfl rfl (by rfl) ?_
      refine s_sta rfl rfl rfl (by rfl) rfl ?_
      refine WpL.nil ?_
      refine Wp.ret ?_
      apply RetQ.mk
      · exact (RetQ.cell rfl rfl (by rfl))
      · first | exact ⟨3, _, .inr rfl, by omega, rfl, rfl⟩ | exact ⟨1, _, .inl rfl, by omega, rfl, rfl⟩
      · exact Ent.nil _
    · refine Wp.skip ?_
      refine Wp.seq ?_
      refine Wp.region ?_
      refine s_lda (vs := [_, _]) rfl rfl rfl (by rfl) ?_
      refine s_sta rfl rfl rfl (by rfl) rfl ?_
      refine WpL.nil ?_
      refine Wp.ret ?_
      apply RetQ.mk
      · exact (RetQ.cell rfl rfl (by rfl))
      · first | exact ⟨3, _, .inr rfl, by omega, rfl, rfl⟩ | exact ⟨1, _, .inl rfl, by omega, rfl, rfl⟩
      · exact Ent.nil _


theorem can_good {C M : Int} {xs : List Int} (hC : C = 1 ∨ C = 3) (hM : 1 ≤ M ∧ M ≤ 65535) (hl : (xs.length : Int) = C) (hx : ∀ x ∈ xs, 0 ≤ x ∧ x ≤ M) : Can C M (packS xs).1 ∧ 0 ≤ (packS xs).1 ∧ (packS xs).1 < 18446744073709551616 := by
  have hs : ∀ n ∈ xs, smp n := fun n hn => by have := hx n hn; unfold smp; omega
  have hu : unpackS (packS xs).1 = xs := unpack_pack (by omega) hs
  exact ⟨⟨by rw [hu]; exact hl, by rw [hu], by rw [hu]; exact hx⟩, pack_bd (by omega) hs⟩

end Go.Proofs.YtggamdlpiejbiaaGreat
namespace Go.Proofs.YtggamdlpiejbiaaGreat
open Go.RowKit Go.Shelf


theorem rds_blk3 {g T : Nat} {a b c : Int} : RdsL [blk g [.int .i64 a, .int .i64 b, .int .i64 c] T] (some ⟨g, 0, none⟩) (ints [a, b, c]) := RdsL.blk rfl
theorem gx_good {C M z : Int} (hC : C = 1 ∨ C = 3) (hM : 1 ≤ M ∧ M ≤ 65535) : Can C M (packS ((([aroundI z 3, aroundI z 3 / 2, 0] : List Int).take C.toNat).map (fun x => aroundI x (M + 1)))).1 ∧ 0 ≤ (packS ((([aroundI z 3, aroundI z 3 / 2, 0] : List Int).take C.toNat).map (fun x => aroundI x (M + 1)))).1 ∧ (packS ((([aroundI z 3, aroundI z 3 / 2, 0] : List Int).take C.toNat).map (fun x => aroundI x (M + 1)))).1 < 18446744073709551616 := by
  refine can_good hC hM ?_ fun x hx => ?_
  · rw [List.length_map, List.length_take]
    rcases hC with rfl | rfl <;> rfl
  · obtain ⟨y, _, rfl⟩ := List.mem_map.1 hx
    have := aroundI_bd (x := y) (m := M + 1) (by omega)
    omega

set_option maxHeartbeats 4000000 in
theorem rGood10_spec (A0 : HP) (three : Bool) (mx w h : Int) (ga : Option Addr) (gc : Nat) (zs : List Int) (hz : ∀ x ∈ zs, -9223372036854775808 ≤ x ∧ x < 9223372036854775808) (hzl : zs.length ≤ 9223372036854775807) (hA : RdsL [A0] ga (ints zs)) (hmx : -9223372036854775808 ≤ mx ∧ mx < 9223372036854775808) (hgw : -9223372036854775808 ≤ w ∧ w < 9223372036854775808) (hgh : -9223372036854775808 ≤ h ∧ h < 9223372036854775808) (most : Int) (hmo : 1 ≤ most ∧ most ≤ 100) : Fn Tryz.prog 35 #[.agg #[.bool three, .int .i64 mx, .int .i64 w, .int .i64 h, .slice ga zs.length gc], .int .i64 most] [A0] (fun v l => ∃ m a c, GoodI most m ∧ v = .agg #[.int .i64 m.c, .int .i64 m.m, .int .i64 m.w, .int .i64 m.h, .slice a m.px.length c] ∧ l = [own 92 1 a c m.px.length (pxs m.px), A0]) := by
  have haw := aroundI_bd (x := w) (m := most) (by omega)
  have hah := aroundI_bd (x := h) (m := most) (by omega)
  have hWH : (1 + aroundI w most) * (1 + aroundI h most) ≤ 100 * 100 := Int.mul_le_mul (by omega) (by omega) (by omega) (by omega)
  have hWH0 : 0 ≤ (1 + aroundI w most) * (1 + aroundI h most) := Int.mul_nonneg (by omega) (by omega)
  have hz30 := aroundI_bd (x := 0) (m := 3) (by omega)
  refine Fn.intro (vs := [.agg #[.bool three, .int .i64 mx, .int .i64 w, .int .i64 h, .slice ga zs.length gc], .int .i64 most]) Tryz.func35 rfl Tryz.ntmps35 rfl ?_
  refine Wp.seq ?_
  refine Wp.region ?_
  refine s_box rfl rfl rfl ?_
  intro gG
  refine s_al rfl ?_
  intro gR
  refine WpL.nil ?_
  refine Wp.seq ?_
  refine Wp.region ?_
  refine s_lda (vs := [_, _, _, _, _]) rfl rfl rfl (by rfl) ?_
  refine s_callf rfl rfl (by repeat' constructor) (rForm_spec _ _ _ _ _ _ _ hmx hgw hgh) ?_
  rintro _ _ ⟨C, M, hC, hM, rfl, rfl⟩
  simp only [napp]
  refine s_al rfl ?_
  intro gF
  refine s_sta rfl rfl rfl (by rfl) rfl ?_
  refine WpL.nil ?_
  refine Wp.seq ?_
  apply Wp.drawGA (fB := []) mixed 11 [(11, true)] rfl rfl (by kernel_rfl)
  apply GoR.segT [⟨0, 12, _, [], false⟩, ⟨1, 13, _, [0], false⟩, ⟨2, 14, _, [], false⟩, ⟨3, 15, _, [1, 2], false⟩, ⟨4, 16, _, [3], false⟩, ⟨5, 17, _, [], false⟩, ⟨6, 18, _, [5], false⟩, ⟨7, 19, _, [], false⟩, ⟨8, 20, _, [3, 6, 7], false⟩, ⟨9, 21, _, [8], false⟩, ⟨10, 22, _, [4, 9], false⟩] [] [0, 1, 2, 3, 4, 5, 6, 7, 8, 9, 10] [] (.inr rfl) rfl rfl rfl (by kernel_rfl) rfl rfl rfl rfl
  · refine AllF.cons rfl rfl rfl rfl ?_ ?_
    · refine s_fa (o2 := 2) rfl rfl rfl ?_
      exact obN rfl
    refine AllF.cons rfl rfl rfl rfl ?_ ?_
    · refine s_ld rfl rfl (by rfl) ?_
      exact obN rfl
    refine AllF.cons rfl rfl rfl rfl ?_ ?_
    · refine s_mv rfl rfl ?_
      exact obN rfl
    refine AllF.cons rfl rfl rfl rfl ?_ ?_
    · refine s_callf rfl rfl (by repeat' constructor) (Around_spec _ _ (by omega) (by omega) (by omega)) ?_
      rintro _ _ ⟨rfl, rfl⟩
      simp only [napp]
      exact WpL.nil ⟨rfl, rfl, rfl, by first | exact Ent.refl _ | exact Ent.nil _ | exact Take.ent' (by repeat' constructor) | (repeat (first | exact Ent.refl _ | refine Ent.drop ?_))⟩
    refine AllF.cons rfl rfl rfl rfl ?_ ?_
    · first | refine s_add rfl rfl rfl (w_i64 (by omega) (by omega)) ?_ | refine s_addw rfl rfl rfl ?_
      exact obN rfl
    refine AllF.cons rfl rfl rfl rfl ?_ ?_
    · refine s_fa (o2 := 3) rfl rfl rfl ?_
      exact obN rfl
    refine AllF.cons rfl rfl rfl rfl ?_ ?_
    · refine s_ld rfl rfl (by rfl) ?_
      exact obN rfl
    refine AllF.cons rfl rfl rfl rfl ?_ ?_
    · refine s_mv rfl rfl ?_
      exact obN rfl
    refine AllF.cons rfl rfl rfl rfl ?_ ?_
    · refine s_callf rfl rfl (by repeat' constructor) (Around_spec _ _ (by omega) (by omega) (by omega)) ?_
      rintro _ _ ⟨rfl, rfl⟩
      simp only [napp]
      exact WpL.nil ⟨rfl, rfl, rfl, by first | exact Ent.refl _ | exact Ent.nil _ | exact Take.ent' (by repeat' constructor) | (repeat (first | exact Ent.refl _ | refine Ent.drop ?_))⟩
    refine AllF.cons rfl rfl rfl rfl ?_ ?_
    · first | refine s_add rfl rfl rfl (w_i64 (by omega) (by omega)) ?_ | refine s_addw rfl rfl rfl ?_
      exact obN rfl
    refine AllF.cons rfl rfl rfl rfl ?_ ?_
    · refine s_bd rfl rfl ?_
      exact obN rfl
    exact AllF.nil
  · intro gM
    refine s_sta rfl rfl rfl (by rfl) rfl ?_
    refine WpL.nil ⟨rfl, rfl, ?_⟩
    apply GoR.nil [] (.inr rfl) rfl rfl
    · exact AllF.nil
    · refine Wp.slots (gr := [(0, _), (1, _), (2, _), (4, _), (5, _), (6, _)]) (FrLe.cons rfl (FrLe.cons rfl (FrLe.cons rfl (FrLe.cons rfl (FrLe.cons rfl (FrLe.cons rfl FrLe.nil)))))) ?_
      refine Wp.seq ?_
      refine Wp.seq ?_
      refine Wp.region ?_
      refine s_as rfl rfl ?_
      refine WpL.nil ?_
      refine Wp.block ?_
      refine Wp.loopD (σ := GdX) (fun x => (x.k : Int) ≤ (1 + aroundI w most) * (1 + aroundI h most) ∧ x.out.length = x.k ∧ ∀ p ∈ x.out, Can C M p ∧ 0 ≤ p ∧ p < 18446744073709551616) [7, 8, 9, 23, 24, 25, 26, 27, 28, 29, 30, 31, 32, 33, 34, 35, 36, 37, 38, 39, 40, 41, 42, 43, 44, 45, 46, 47, 48, 49, 50, 51, 52, 53, 54, 55, 56, 57] (fun x => [(7, .int .i64 (x.k : Int))]) (fun x => [own 92 1 x.a x.c x.out.length (pxs x.out), blk gM [.int .i64 (1 + aroundI w most), .int .i64 (1 + aroundI h most), .slice x.a x.out.length x.c] 69, blk gF [.int .i64 C, .int .i64 M] 48, blk gR [.int .i64 0, .int .i64 0, .int .i64 0, .int .i64 0, .slice none 0 0] 71, blk gG [.bool three, .int .i64 mx, .int .i64 w, .int .i64 h, .slice ga zs.length gc] 74, A0]) (fun x => ((1 + aroundI w most) * (1 + aroundI h most)).toNat - x.k) ⟨0, [], none, 0⟩ ?_ (by repeat (first | exact FrLe.nil | refine FrLe.cons rfl ?_)) ?_ ?_
      · exact ⟨by simpa using hWH0, rfl, by simp⟩
      · exact Ent.own_nil (Ent.refl _)
      · rintro ⟨k, out, a, c⟩ ⟨hk, hol, hcan⟩
        dsimp only at hk hol hcan ⊢
        refine Wp.seq ?_
        refine Wp.seq ?_
        refine Wp.region ?_
        refine s_mv rfl rfl ?_
        refine s_fa (o2 := 0) rfl rfl rfl ?_
        refine s_ld rfl rfl (by rfl) ?_
        refine s_fa (o2 := 1) rfl rfl rfl ?_
        refine s_ld rfl rfl (by rfl) ?_
        refine s_mul rfl rfl rfl (w_i64 (by omega) (by omega)) ?_
        refine s_lt rfl rfl rfl ?_
        refine WpL.nil ?_
        refine Wp.condD rfl (fun h1 => ?_) (fun h1 => ?_)
        · refine Wp.skip ?_
          refine Wp.seq ?_
          refine Wp.block ?_
          refine Wp.seq ?_
          refine Wp.region ?_
          refine s_as rfl rfl ?_
          refine WpL.nil ?_
          refine Wp.seq ?_
          refine Wp.seq ?_
          refine Wp.region ?_
          refine s_fa (o2 := 4) rfl rfl rfl ?_
          refine s_ld rfl rfl (by rfl) ?_
          refine s_lenl rfl rfl ?_
          refine s_gt rfl rfl rfl ?_
          refine WpL.nil ?_
          refine Wp.condD rfl (fun h2 => ?_) (fun h2 => ?_)
          · have hix0 := Int.emod_nonneg (k : Int) (show (zs.length : Int) ≠ 0 by omega)
            have hix1 := Int.emod_lt_of_pos (k : Int) (show (0 : Int) < zs.length by omega)
            have hix : ((k : Int) % zs.length).toNat < zs.length := by omega
            have hzi := hz _ (List.getElem_mem hix)
            have hz3 := aroundI_bd (x := zs[((k : Int) % zs.length).toNat]) (m := 3) (by omega)
            apply Wp.draw mixed [⟨36, _, []⟩, ⟨37, _, [0]⟩, ⟨38, _, []⟩, ⟨39, _, []⟩, ⟨40, _, [3]⟩, ⟨41, _, [4]⟩, ⟨42, _, [2, 5]⟩, ⟨43, _, [1, 6]⟩, ⟨44, _, [7]⟩, ⟨8, _, [8, 0, 1, 2, 3, 4, 5, 6, 7]⟩] rfl
            · refine AllObs.mk ?_ ?_
              · refine s_fa (o2 := 4) rfl rfl rfl ?_
                exact obN rfl
              refine AllObs.mk ?_ ?_
              · refine s_ld rfl rfl (by rfl) ?_
                exact obN rfl
              refine AllObs.mk ?_ ?_
              · refine s_mv rfl rfl ?_
                exact obN rfl
              refine AllObs.mk ?_ ?_
              · refine s_fa (o2 := 4) rfl rfl rfl ?_
                exact obN rfl
              refine AllObs.mk ?_ ?_
              · refine s_ld rfl rfl (by rfl) ?_
                exact obN rfl
              refine AllObs.mk ?_ ?_
              · refine s_lenl rfl rfl ?_
                exact WpL.nil ⟨rfl, rfl, rfl, by first | exact Ent.refl _ | exact Ent.nil _ | exact Take.ent' (by repeat' constructor) | (repeat (first | exact Ent.refl _ | refine Ent.drop ?_))⟩
              refine AllObs.mk ?_ ?_
              · refine s_rem rfl rfl rfl (by omega) (by omega) ?_
                exact obN rfl
              refine AllObs.mk ?_ ?_
              · refine s_ixa ((k : Int) % zs.length).toNat rfl rfl rfl hA (by first | exact Take.ent' (by repeat' constructor) | (repeat (first | exact Ent.refl _ | refine Ent.drop ?_))) (by omega) hix (by rw [ints_len]; exact hix) ?_
                exact obN rfl
              refine AllObs.mk ?_ ?_
              · refine s_ldx rfl rfl hA (by first | exact Take.ent' (by repeat' constructor) | (repeat (first | exact Ent.refl _ | refine Ent.drop ?_))) (ints_at zs hix) ?_
                exact obN rfl
              refine AllObs.mk ?_ ?_
              · refine s_as rfl rfl ?_
                exact obN rfl
              exact AllObs.nil
            · refine Wp.seq ?_
              refine Wp.region ?_
              refine s_mv rfl rfl ?_
              refine s_callf rfl rfl (by repeat' constructor) (Around_spec _ _ (by omega) (by omega) (by omega)) ?_
              rintro _ _ ⟨rfl, rfl⟩
              simp only [napp]
              refine s_as rfl rfl ?_
              refine WpL.nil ?_
              refine Wp.slots (gr := [(0, _), (1, _), (2, _), (4, _), (5, _), (6, _), (7, _), (9, _)]) (FrLe.cons rfl (FrLe.cons rfl (FrLe.cons rfl (FrLe.cons rfl (FrLe.cons rfl (FrLe.cons rfl (FrLe.cons rfl (FrLe.cons rfl FrLe.nil)))))))) ?_
              apply Wp.drawP (fB := [blk gM [.int .i64 (1 + aroundI w most), .int .i64 (1 + aroundI h most), .slice a out.length c] 69, blk gF [.int .i64 C, .int .i64 M] 48]) [0, 1, 2, 3, 4, 6, 5, 7, 8, 9, 10, 11] [47, 48, 49, 50, 51, 53, 52, 54, 55, 56, 57] 12 mixed (by kernel_rfl) [(6, false), (1, false), (0, false), (1, false)] (by kernel_rfl) (by kernel_rfl) (by kernel_rfl)
              apply GoR.segFP [⟨0, 47, _, [], true⟩, ⟨1, 48, _, [0], true⟩, ⟨2, 49, _, [], false⟩, ⟨3, 50, _, [], false⟩, ⟨4, 51, _, [3], false⟩, ⟨5, 53, _, [], true⟩] [] [2, 3, 4] [54, 55, 56, 57] [54, 55, 56, 57, 47, 48, 53] (.inl ⟨_, by repeat' constructor⟩) rfl rfl rfl (by kernel_rfl) rfl (by kernel_rfl) rfl rfl
              · refine AllF.consPR 0 [] rfl rfl rfl rfl (by kernel_rfl) rfl ?_ ?_
                · refine s_fa (o2 := 2) rfl rfl rfl ?_
                  exact obN rfl
                refine AllF.consPR 1 [0] rfl rfl rfl rfl (by kernel_rfl) rfl ?_ ?_
                · refine s_ld rfl rfl (by rfl) ?_
                  exact obN rfl
                refine AllF.consP 2 [] rfl rfl rfl rfl (by kernel_rfl) rfl ?_ ?_
                · refine s_mv rfl rfl ?_
                  exact obN rfl
                refine AllF.consP 3 [] rfl rfl rfl rfl (by kernel_rfl) rfl ?_ ?_
                · refine s_mv rfl rfl ?_
                  exact obN rfl
                refine AllF.consP 4 [3] rfl rfl rfl rfl (by kernel_rfl) rfl ?_ ?_
                · refine s_quo rfl rfl rfl (by omega) (by omega) (w_i64 (by omega) (by omega)) ?_
                  exact obN rfl
                refine AllF.consPR 5 [] rfl rfl rfl rfl (by kernel_rfl) rfl ?_ ?_
                · refine s_lda (vs := [_, _]) rfl rfl rfl (by rfl) ?_
                  exact obN rfl
                exact AllF.nil
              · refine s_bs3 rfl rfl rfl rfl rfl rfl rfl rfl ?_
                intro g5
                refine WpL.nil ⟨rfl, rfl, ?_⟩
                apply GoR.segFP [⟨7, 54, _, [5, 6], false⟩] [0, 1, 5] [5, 7] [56, 57] [56, 57, 47, 48] (.inl ⟨_, by repeat' constructor⟩) rfl rfl rfl (by kernel_rfl) rfl (by kernel_rfl) rfl rfl
                · refine AllF.consP 7 [5, 6] rfl rfl rfl rfl (by kernel_rfl) rfl ?_ ?_
                  · refine s_callf rfl rfl (by repeat' constructor) (GoodPx3_spec [_] _ _ [_, _, 0] C M rds_blk3 (by simp only [List.mem_cons, List.not_mem_nil, or_false]; rintro x (rfl | rfl | rfl) <;> omega) (by simp only [List.length_cons, List.length_nil]; omega) hC hM.1 hM.2) ?_
                    rintro _ _ ⟨rfl, rfl⟩
                    simp only [napp]
                    exact WpL.nil ⟨rfl, rfl, rfl, by first | exact Ent.refl _ | exact Ent.nil _ | exact Take.ent' (by repeat' constructor) | (repeat (first | exact Ent.refl _ | refine Ent.drop ?_))⟩
                  exact AllF.nil
                · refine s_bs1 rfl rfl rfl rfl ?_
                  intro g6
                  refine WpL.nil ⟨rfl, rfl, ?_⟩
                  apply GoR.segFP [] [0, 1] [0, 1] [57] [57] (.inl ⟨_, by repeat' constructor⟩) rfl rfl rfl (by kernel_rfl) rfl (by kernel_rfl) rfl rfl
                  · exact AllF.nil
                  · first
                      | (refine s_app1 rfl rfl rfl (by repeat' constructor) (by rfl) (by rfl) (by rfl) (by rfl) (by omega) (by omega) ?_; intro a56 c56; rw [pxs_snoc, show out.length + 1 = (out ++ [(packS ((([aroundI (zs[((k : Int) % zs.length).toNat]'hix) 3, aroundI (zs[((k : Int) % zs.length).toNat]'hix) 3 / 2, 0] : List Int).take C.toNat).map (fun x => aroundI x (M + 1)))).1]).length from by simp])
                      | (refine s_app1 rfl rfl rfl (by repeat' constructor) (by rfl) (by rfl) (by rfl) (by rfl) (by omega) (by omega) ?_; intro a56 c56; rw [pxs_snoc, show out.length + 1 = (out ++ [(packS ((([aroundI 0 3, aroundI 0 3 / 2, 0] : List Int).take C.toNat).map (fun x => aroundI x (M + 1)))).1]).length from by simp])
                    refine WpL.nil ⟨rfl, rfl, ?_⟩
                    apply GoR.segFP [⟨10, 57, _, [0, 1, 2, 3, 4, 5, 6, 7, 8, 9], false⟩] [] [10] [] [] (.inr rfl) rfl rfl rfl (by kernel_rfl) rfl (by kernel_rfl) rfl rfl
                    · refine AllF.consP 10 [0, 1, 2, 3, 4, 5, 6, 7, 8, 9] rfl rfl rfl rfl (by kernel_rfl) rfl ?_ ?_
                      · refine s_fa (o2 := 2) rfl rfl rfl ?_
                        exact obN rfl
                      exact AllF.nil
                    · refine s_st rfl rfl rfl ?_
                      refine WpL.nil ⟨rfl, rfl, ?_⟩
                      apply GoR.nilP [] 12 (by kernel_rfl) (.inr rfl) rfl rfl
                      · exact AllF.nil
                      · refine Wp.region ?_
                        refine s_mv rfl rfl ?_
                        first | refine s_add rfl rfl rfl (w_i64 (by omega) (by omega)) ?_ | refine s_addw rfl rfl rfl ?_
                        refine s_as rfl rfl ?_
                        refine WpL.nil ?_
                        refine loopD.next (⟨k + 1, out ++ [(packS ((([aroundI (zs[((k : Int) % zs.length).toNat]'hix) 3, aroundI (zs[((k : Int) % zs.length).toNat]'hix) 3 / 2, 0] : List Int).take C.toNat).map (fun x => aroundI x (M + 1)))).1], a56, c56⟩ : GdX) ?_ ?_ (by first | ((repeat (first | exact Top.refl | refine Top.push rfl ?_ | refine Top.drop rfl ?_)); done) | exact Top.le (by repeat (first | exact FrLe.nil | refine FrLe.cons rfl ?_))) (by repeat (first | exact FrLe.nil | refine FrLe.cons rfl ?_)) ?_
                        · refine ⟨by simp only; omega, by simp; omega, ?_⟩
                          intro p hp
                          rcases List.mem_append.1 hp with hp | hp
                          · exact hcan p hp
                          · have := List.mem_singleton.1 hp
                            subst this
                            exact gx_good hC hM
                        · simp only; omega
                        · first | exact Ent.refl _ | exact Ent.nil _ | exact Take.ent' (by repeat' constructor) | (repeat (first | exact Ent.refl _ | refine Ent.drop ?_))
          · refine Wp.skip ?_
            refine Wp.seq ?_
            refine Wp.region ?_
            refine s_mv rfl rfl ?_
            refine s_callf rfl rfl (by repeat' constructor) (Around_spec _ _ (by omega) (by omega) (by omega)) ?_
            rintro _ _ ⟨rfl, rfl⟩
            simp only [napp]
            refine s_as rfl rfl ?_
            refine WpL.nil ?_
            refine Wp.slots (gr := [(0, _), (1, _), (2, _), (4, _), (5, _), (6, _), (7, _), (9, _)]) (FrLe.cons rfl (FrLe.cons rfl (FrLe.cons rfl (FrLe.cons rfl (FrLe.cons rfl (FrLe.cons rfl (FrLe.cons rfl (FrLe.cons rfl FrLe.nil)))))))) ?_
            apply Wp.drawP (fB := [blk gM [.int .i64 (1 + aroundI w most), .int .i64 (1 + aroundI h most), .slice a out.length c] 69, blk gF [.int .i64 C, .int .i64 M] 48]) [0, 1, 2, 3, 4, 6, 5, 7, 8, 9, 10, 11] [47, 48, 49, 50, 51, 53, 52, 54, 55, 56, 57] 12 mixed (by kernel_rfl) [(6, false), (1, false), (0, false), (1, false)] (by kernel_rfl) (by kernel_rfl) (by kernel_rfl)
            apply GoR.segFP [⟨0, 47, _, [], true⟩, ⟨1, 48, _, [0], true⟩, ⟨2, 49, _, [], false⟩, ⟨3, 50, _, [], false⟩, ⟨4, 51, _, [3], false⟩, ⟨5, 53, _, [], true⟩] [] [2, 3, 4] [54, 55, 56, 57] [54, 55, 56, 57, 47, 48, 53] (.inl ⟨_, by repeat' constructor⟩) rfl rfl rfl (by kernel_rfl) rfl (by kernel_rfl) rfl rfl
            · refine AllF.consPR 0 [] rfl rfl rfl rfl (by kernel_rfl) rfl ?_ ?_
              · refine s_fa (o2 := 2) rfl rfl rfl ?_
                exact obN rfl
              refine AllF.consPR 1 [0] rfl rfl rfl rfl (by kernel_rfl) rfl ?_ ?_
              · refine s_ld rfl rfl (by rfl) ?_
                exact obN rfl
              refine AllF.consP 2 [] rfl rfl rfl rfl (by kernel_rfl) rfl ?_ ?_
              · refine s_mv rfl rfl ?_
                exact obN rfl
              refine AllF.consP 3 [] rfl rfl rfl rfl (by kernel_rfl) rfl ?_ ?_
              · refine s_mv rfl rfl ?_
                exact obN rfl
              refine AllF.consP 4 [3] rfl rfl rfl rfl (by kernel_rfl) rfl ?_ ?_
              · refine s_quo rfl rfl rfl (by omega) (by omega) (w_i64 (by omega) (by omega)) ?_
                exact obN rfl
              refine AllF.consPR 5 [] rfl rfl rfl rfl (by kernel_rfl) rfl ?_ ?_
              · refine s_lda (vs := [_, _]) rfl rfl rfl (by rfl) ?_
                exact obN rfl
              exact AllF.nil
            · refine s_bs3 rfl rfl rfl rfl rfl rfl rfl rfl ?_
              intro g7
              refine WpL.nil ⟨rfl, rfl, ?_⟩
              apply GoR.segFP [⟨7, 54, _, [5, 6], false⟩] [0, 1, 5] [5, 7] [56, 57] [56, 57, 47, 48] (.inl ⟨_, by repeat' constructor⟩) rfl rfl rfl (by kernel_rfl) rfl (by kernel_rfl) rfl rfl
              · refine AllF.consP 7 [5, 6] rfl rfl rfl rfl (by kernel_rfl) rfl ?_ ?_
                · refine s_callf rfl rfl (by repeat' constructor) (GoodPx3_spec [_] _ _ [_, _, 0] C M rds_blk3 (by simp only [List.mem_cons, List.not_mem_nil, or_false]; rintro x (rfl | rfl | rfl) <;> omega) (by simp only [List.length_cons, List.length_nil]; omega) hC hM.1 hM.2) ?_
                  rintro _ _ ⟨rfl, rfl⟩
                  simp only [napp]
                  exact WpL.nil ⟨rfl, rfl, rfl, by first | exact Ent.refl _ | exact Ent.nil _ | exact Take.ent' (by repeat' constructor) | (repeat (first | exact Ent.refl _ | refine Ent.drop ?_))⟩
                exact AllF.nil
              · refine s_bs1 rfl rfl rfl rfl ?_
                intro g8
                refine WpL.nil ⟨rfl, rfl, ?_⟩
                apply GoR.segFP [] [0, 1] [0, 1] [57] [57] (.inl ⟨_, by repeat' constructor⟩) rfl rfl rfl (by kernel_rfl) rfl (by kernel_rfl) rfl rfl
                · exact AllF.nil
                · first
                    | (refine s_app1 rfl rfl rfl (by repeat' constructor) (by rfl) (by rfl) (by rfl) (by rfl) (by omega) (by omega) ?_; intro a56 c56; rw [pxs_snoc, show out.length + 1 = (out ++ [(packS ((([aroundI (zs[((k : Int) % zs.length).toNat]'hix) 3, aroundI (zs[((k : Int) % zs.length).toNat]'hix) 3 / 2, 0] : List Int).take C.toNat).map (fun x => aroundI x (M + 1)))).1]).length from by simp])
                    | (refine s_app1 rfl rfl rfl (by repeat' constructor) (by rfl) (by rfl) (by rfl) (by rfl) (by omega) (by omega) ?_; intro a56 c56; rw [pxs_snoc, show out.length + 1 = (out ++ [(packS ((([aroundI 0 3, aroundI 0 3 / 2, 0] : List Int).take C.toNat).map (fun x => aroundI x (M + 1)))).1]).length from by simp])
                  refine WpL.nil ⟨rfl, rfl, ?_⟩
                  apply GoR.segFP [⟨10, 57, _, [0, 1, 2, 3, 4, 5, 6, 7, 8, 9], false⟩] [] [10] [] [] (.inr rfl) rfl rfl rfl (by kernel_rfl) rfl (by kernel_rfl) rfl rfl
                  · refine AllF.consP 10 [0, 1, 2, 3, 4, 5, 6, 7, 8, 9] rfl rfl rfl rfl (by kernel_rfl) rfl ?_ ?_
                    · refine s_fa (o2 := 2) rfl rfl rfl ?_
                      exact obN rfl
                    exact AllF.nil
                  · refine s_st rfl rfl rfl ?_
                    refine WpL.nil ⟨rfl, rfl, ?_⟩
                    apply GoR.nilP [] 12 (by kernel_rfl) (.inr rfl) rfl rfl
                    · exact AllF.nil
                    · refine Wp.region ?_
                      refine s_mv rfl rfl ?_
                      first | refine s_add rfl rfl rfl (w_i64 (by omega) (by omega)) ?_ | refine s_addw rfl rfl rfl ?_
                      refine s_as rfl rfl ?_
                      refine WpL.nil ?_
                      refine loopD.next (⟨k + 1, out ++ [(packS ((([aroundI 0 3, aroundI 0 3 / 2, 0] : List Int).take C.toNat).map (fun x => aroundI x (M + 1)))).1], a56, c56⟩ : GdX) ?_ ?_ (by first | ((repeat (first | exact Top.refl | refine Top.push rfl ?_ | refine Top.drop rfl ?_)); done) | exact Top.le (by repeat (first | exact FrLe.nil | refine FrLe.cons rfl ?_))) (by repeat (first | exact FrLe.nil | refine FrLe.cons rfl ?_)) ?_
                      · refine ⟨by simp only; omega, by simp; omega, ?_⟩
                        intro p hp
                        rcases List.mem_append.1 hp with hp | hp
                        · exact hcan p hp
                        · have := List.mem_singleton.1 hp
                          subst this
                          exact gx_good hC hM
                      · simp only; omega
                      · first | exact Ent.refl _ | exact Ent.nil _ | exact Take.ent' (by repeat' constructor) | (repeat (first | exact Ent.refl _ | refine Ent.drop ?_))
        · refine Wp.exit ?_
          refine Wp.seq ?_
          refine Wp.region ?_
          refine s_lda (vs := [_, _]) rfl rfl rfl (by rfl) ?_
          refine s_lda (vs := [_, _, _]) rfl rfl rfl (by rfl) ?_
          refine s_bd rfl rfl ?_
          refine s_sta rfl rfl rfl (by rfl) rfl ?_
          refine WpL.nil ?_
          refine Wp.ret ?_
          apply RetQ.mk
          · exact (RetQ.cell rfl rfl (by rfl))
          · exact ⟨⟨C, M, (1 + aroundI w most), (1 + aroundI h most), out⟩, a, c, ⟨hC, hM, by simp only; omega, by simp only; omega, by simp only; omega, hcan⟩, rfl, rfl⟩
          · first | exact Ent.refl _ | exact Ent.nil _ | exact Take.ent' (by repeat' constructor) | (repeat (first | exact Ent.refl _ | refine Ent.drop ?_))

end Go.Proofs.YtggamdlpiejbiaaGreat
namespace Go.Proofs.YtggamdlpiejbiaaGreat
open Go.RowKit Go.Shelf


/-- What an image is made of, as it lies. -/
structure GS where
  (three : Bool) (mx w h : Int) (a : Option Addr) (c : Nat) (zs : List Int)
def gC (g : GS) : List Value := [.bool g.three, .int .i64 g.mx, .int .i64 g.w, .int .i64 g.h, .slice g.a g.zs.length g.c]
def GsOk (A0 : HP) (gs : List GS) : Prop := ∀ g ∈ gs, (∀ x ∈ g.zs, -9223372036854775808 ≤ x ∧ x < 9223372036854775808) ∧ g.zs.length ≤ 9223372036854775807 ∧ RdsL [A0] g.a (ints g.zs) ∧ (-9223372036854775808 ≤ g.mx ∧ g.mx < 9223372036854775808) ∧ (-9223372036854775808 ≤ g.w ∧ g.w < 9223372036854775808) ∧ (-9223372036854775808 ≤ g.h ∧ g.h < 9223372036854775808)
structure GeX where
  (k : Nat) (out : List Img) (a : Option Addr) (c : Nat)
theorem gC_ne {gs : List GS} (h : 0 < gs.length) : gs.flatMap gC ≠ [] := by
  cases gs with
  | nil => simp at h
  | cons g t => simp [gC]

theorem rGood11_spec (A0 : HP) (ga : Option Addr) (gc : Nat) (gs : List GS) (hgl : gs.length ≤ 9223372036854775807) (hG : RdsL [A0] ga (gs.flatMap gC)) (hgs : GsOk A0 gs) (most : Int) (hmo : 1 ≤ most ∧ most ≤ 100) : Fn Tryz.prog 25 #[.slice ga gs.length gc, .int .i64 most] [A0] (fun v l => ∃ out a c, (∀ m ∈ out, GoodI most m) ∧ out.length ≤ 3 ∧ v = .slice a out.length c ∧ l = [imR a c out, A0]) := by
  refine Fn.intro (vs := [.slice ga gs.length gc, .int .i64 most]) Tryz.func25 rfl Tryz.ntmps25 rfl ?_
  refine Wp.seq ?_
  refine Wp.region ?_
  refine s_as rfl rfl ?_
  refine WpL.nil ?_
  refine Wp.seq ?_
  refine Wp.region ?_
  refine s_as rfl rfl ?_
  refine WpL.nil ?_
  refine Wp.seq ?_
  refine Wp.seq ?_
  refine Wp.region ?_
  refine s_as rfl rfl ?_
  refine WpL.nil ?_
  refine Wp.block ?_
  refine Wp.loopD (σ := GeX) (fun x => x.k ≤ gs.length ∧ x.k ≤ 3 ∧ x.out.length = x.k ∧ ∀ m ∈ x.out, GoodI most m) [5, 6, 7, 8, 9, 10, 11, 12, 13, 14, 15, 16, 17, 18, 19, 20, 21, 22, 23, 24, 25] (fun x => [(6, .int .i64 (x.k : Int)), (5, .slice x.a x.out.length x.c)]) (fun x => [imR x.a x.c x.out, A0]) (fun x => gs.length - x.k) ⟨0, [], none, 0⟩ ?_ (by repeat (first | exact FrLe.nil | refine FrLe.cons rfl ?_)) ?_ ?_
  · exact ⟨Nat.zero_le _, by simp, rfl, by simp⟩
  · exact Ent.rcNil (Ent.refl _)
  · rintro ⟨k, out, a, c⟩ ⟨hk, hk3, hol, hgo⟩
    dsimp only at hk hk3 hol hgo ⊢
    refine Wp.seq ?_
    refine Wp.seq ?_
    refine Wp.region ?_
    refine s_mv rfl rfl ?_
    refine s_mv rfl rfl ?_
    refine s_lenl rfl rfl ?_
    refine s_lt rfl rfl rfl ?_
    refine s_mv rfl rfl ?_
    refine WpL.grd rfl rfl rfl (fun hg1 => ?_) (fun hg1 => ?_)
    · have hg1 := of_decide_eq_true hg1
      refine s_mv rfl rfl ?_
      refine WpL.gon rfl rfl ?_
      refine s_lt rfl rfl rfl ?_
      refine s_pickT rfl rfl rfl ?_
      refine WpL.nil ?_
      refine Wp.condD rfl (fun h1 => ?_) (fun h1 => ?_)
      · have hlt : k < gs.length := by omega
        have hlt3 : k < 3 := by omega
        obtain ⟨hz, hzl, hzA, hmx, hgw, hgh⟩ := hgs _ (List.getElem_mem hlt)
        refine Wp.skip ?_
        refine Wp.seq ?_
        refine Wp.block ?_
        refine Wp.region ?_
        refine s_mv rfl rfl ?_
        refine s_mv rfl rfl ?_
        refine s_mv rfl rfl ?_
        refine s_ixR (s := 5) k rfl rfl rfl hG (by first | exact Take.ent' (by repeat' constructor) | (repeat (first | exact Ent.refl _ | refine Ent.drop ?_))) rfl (by omega) (gC_ne (by omega)) ?_
        refine s_ldaX (vs := gC gs[k]) rfl rfl hG (by first | exact Take.ent' (by repeat' constructor) | (repeat (first | exact Ent.refl _ | refine Ent.drop ?_))) (gC_ne (by omega)) rfl (flat_seg (s := 5) (f := gC) (fun _ => rfl) gs k hlt) ?_
        refine s_mv rfl rfl ?_
        refine s_callf rfl rfl (by repeat' constructor) (rGood10_spec A0 gs[k].three gs[k].mx gs[k].w gs[k].h gs[k].a gs[k].c gs[k].zs hz hzl hzA hmx hgw hgh most hmo) ?_
        rintro _ _ ⟨m, am, cm, hgm, rfl, rfl⟩
        simp only [napp]
        refine s_bsA1 rfl rfl (by rfl) (by rfl) (by rfl) (by rfl) ?_
        intro g1
        refine s_apR1 (m) rfl rfl rfl (by repeat' constructor) rfl (by rfl) (by rfl) (by rfl) (by rfl) (by first | omega | (simp only [List.length_append, List.length_cons, List.length_nil]; omega)) (by first | omega | (simp only [List.length_append, List.length_cons, List.length_nil]; omega)) ?_
        intro a25 c25
        refine s_as rfl rfl ?_
        refine WpL.nil ?_
        refine Wp.region ?_
        refine s_mv rfl rfl ?_
        first | refine s_add rfl rfl rfl (w_i64 (by omega) (by omega)) ?_ | refine s_addw rfl rfl rfl ?_
        refine s_as rfl rfl ?_
        refine WpL.nil ?_
        refine loopD.next (⟨k + 1, out ++ [m], a25, c25⟩ : GeX) ?_ ?_ (by first | ((repeat (first | exact Top.refl | refine Top.push rfl ?_ | refine Top.drop rfl ?_)); done) | exact Top.le (by repeat (first | exact FrLe.nil | refine FrLe.cons rfl ?_))) (by repeat (first | exact FrLe.nil | refine FrLe.cons rfl ?_)) ?_
        · refine ⟨by simp only; omega, by simp only; omega, by simp; omega, ?_⟩
          intro q hq
          rcases List.mem_append.1 hq with hq | hq
          · exact hgo q hq
          · rw [List.mem_singleton.1 hq]; exact hgm
        · simp only; omega
        · first | exact Ent.refl _ | exact Ent.nil _ | exact Take.ent' (by repeat' constructor) | (repeat (first | exact Ent.refl _ | refine Ent.drop ?_))
      · refine Wp.exit ?_
        refine Wp.seq ?_
        refine Wp.region ?_
        refine s_mv rfl rfl ?_
        refine s_as rfl rfl ?_
        refine WpL.nil ?_
        refine Wp.ret ?_
        apply RetQ.mk
        · exact (Res.one rfl rfl)
        · exact ⟨out, a, c, hgo, by omega, rfl, rfl⟩
        · first | exact Ent.refl _ | exact Ent.nil _ | exact Take.ent' (by repeat' constructor) | (repeat (first | exact Ent.refl _ | refine Ent.drop ?_))
    · have hg1 := of_decide_eq_false hg1
      refine WpL.goff rfl rfl rfl (by decide) ?_
      refine s_pickF rfl rfl rfl ?_
      refine WpL.nil ?_
      refine Wp.condF rfl ?_
      refine Wp.exit ?_
      refine Wp.seq ?_
      refine Wp.region ?_
      refine s_mv rfl rfl ?_
      refine s_as rfl rfl ?_
      refine WpL.nil ?_
      refine Wp.ret ?_
      apply RetQ.mk
      · exact (Res.one rfl rfl)
      · exact ⟨out, a, c, hgo, by omega, rfl, rfl⟩
      · first | exact Ent.refl _ | exact Ent.nil _ | exact Take.ent' (by repeat' constructor) | (repeat (first | exact Ent.refl _ | refine Ent.drop ?_))

end Go.Proofs.YtggamdlpiejbiaaGreat
namespace Go.Proofs.YtggamdlpiejbiaaGreat
open Go.ChangeShapes Go.WideShapes Go.ChangeAt Go.RowKit Go.Shelf

def GsOk1 (A0 : HP) (g : GS) : Prop := (∀ x ∈ g.zs, -9223372036854775808 ≤ x ∧ x < 9223372036854775808) ∧ g.zs.length ≤ 9223372036854775807 ∧ RdsL [A0] g.a (ints g.zs) ∧ (-9223372036854775808 ≤ g.mx ∧ g.mx < 9223372036854775808) ∧ (-9223372036854775808 ≤ g.w ∧ g.w < 9223372036854775808) ∧ (-9223372036854775808 ≤ g.h ∧ g.h < 9223372036854775808)
theorem open_G {H : Type} {enc : TypeId × Value → H} {W : World} {sp : Nat → Bool} {held : Bool} {fuel : Nat} {cs : List Value} {x : DataW H × List MemPlace} (h : DataW.trod enc Tryz.prog W 0 sp held fuel 74 cs = some x) : ∃ g : GS, cs = gC g ∧ GsOk1 (oldW W) g := by
  obtain ⟨xs, n, rfl, rfl, hl, hxl, hf⟩ := DataW.trod_struct Tryz.underlying74 h
  rw [show Tryz.prog.cellsOf 74 = 5 by kernel_rfl] at hl
  obtain ⟨c0, c1, c2, c3, c4, rfl⟩ := len5 hl
  have f0 : DataW.trod enc Tryz.prog W 0 sp held n 4 (([c0, c1, c2, c3, c4].drop 0).take (Tryz.prog.cellsOf 4)) = xs[0]? := hf 0 _ rfl
  rw [show Tryz.prog.cellsOf 4 = 1 by kernel_rfl, List.getElem?_eq_getElem (show 0 < xs.length by rw [hxl]; decide)] at f0
  change DataW.trod enc Tryz.prog W 0 sp held n 4 [c0] = _ at f0
  have f1 : DataW.trod enc Tryz.prog W 0 sp held n 3 (([c0, c1, c2, c3, c4].drop 1).take (Tryz.prog.cellsOf 3)) = xs[1]? := hf 1 _ rfl
  rw [show Tryz.prog.cellsOf 3 = 1 by kernel_rfl, List.getElem?_eq_getElem (show 1 < xs.length by rw [hxl]; decide)] at f1
  change DataW.trod enc Tryz.prog W 0 sp held n 3 [c1] = _ at f1
  have f2 : DataW.trod enc Tryz.prog W 0 sp held n 3 (([c0, c1, c2, c3, c4].drop 2).take (Tryz.prog.cellsOf 3)) = xs[2]? := hf 2 _ rfl
  rw [show Tryz.prog.cellsOf 3 = 1 by kernel_rfl, List.getElem?_eq_getElem (show 2 < xs.length by rw [hxl]; decide)] at f2
  change DataW.trod enc Tryz.prog W 0 sp held n 3 [c2] = _ at f2
  have f3 : DataW.trod enc Tryz.prog W 0 sp held n 3 (([c0, c1, c2, c3, c4].drop 3).take (Tryz.prog.cellsOf 3)) = xs[3]? := hf 3 _ rfl
  rw [show Tryz.prog.cellsOf 3 = 1 by kernel_rfl, List.getElem?_eq_getElem (show 3 < xs.length by rw [hxl]; decide)] at f3
  change DataW.trod enc Tryz.prog W 0 sp held n 3 [c3] = _ at f3
  have f4 : DataW.trod enc Tryz.prog W 0 sp held n 26 (([c0, c1, c2, c3, c4].drop 4).take (Tryz.prog.cellsOf 26)) = xs[4]? := hf 4 _ rfl
  rw [show Tryz.prog.cellsOf 26 = 1 by kernel_rfl, List.getElem?_eq_getElem (show 4 < xs.length by rw [hxl]; decide)] at f4
  change DataW.trod enc Tryz.prog W 0 sp held n 26 [c4] = _ at f4
  obtain ⟨b0, e0, _⟩ := DataW.trod_bool Tryz.underlying4 f0
  obtain rfl : c0 = _ := by simpa using e0
  obtain ⟨z1, e1, _, w1⟩ := DataW.trod_int Tryz.underlying3 f1
  obtain rfl : c1 = _ := by simpa using e1
  have b1 := wf_i64 w1
  obtain ⟨z2, e2, _, w2⟩ := DataW.trod_int Tryz.underlying3 f2
  obtain rfl : c2 = _ := by simpa using e2
  have b2 := wf_i64 w2
  obtain ⟨z3, e3, _, w3⟩ := DataW.trod_int Tryz.underlying3 f3
  obtain rfl : c3 = _ := by simpa using e3
  have b3 := wf_i64 w3
  obtain ⟨a4, n4, k4, zs4, e4, hzl4, hnk4, hkm4, hz4, hr4⟩ := open_nums Tryz.underlying26 Tryz.underlying3 (by kernel_rfl) f4
  obtain rfl : c4 = _ := by simpa using e4
  subst hzl4
  have b4 : ∀ x ∈ zs4, _ := fun x hx => wf_i64 (hz4 x hx)
  have m4 : zs4.length ≤ 9223372036854775807 := by unfold maxLen at hkm4; omega
  exact ⟨⟨b0, z1, z2, z3, a4, k4, zs4⟩, rfl, ⟨b4, m4, hr4, b1, b2, b3⟩⟩
end Go.Proofs.YtggamdlpiejbiaaGreat
