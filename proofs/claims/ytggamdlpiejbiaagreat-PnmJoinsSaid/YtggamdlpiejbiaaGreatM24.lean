/- Walks and plain laws, a part of the proof of PnmJoins: every input that the law's guards let in, no condition beside. -/
import Derived.ArgAppend
import Derived.Test.YtggamdlpiejbiaaGreatM23
namespace Go.Proofs.YtggamdlpiejbiaaGreat
open Go.RowKit Go.Shelf

theorem Same03_true (As : List HP) (x : Img) (a b : Option Addr) (c c2 : Nat) (hx : RdsL As a (Xp x.px)) (hy : RdsL As b (Xp x.px)) (hl : x.px.length ≤ 9223372036854775807) : Fn Tryz.prog 83 #[.agg #[.int .i64 x.w, .int .i64 x.h, .slice a x.px.length c], .agg #[.int .i64 x.w, .int .i64 x.h, .slice b x.px.length c2]] As (fun v l => v = .bool true ∧ l = As) := by
 refine Qk (vs := [.agg #[.int .i64 x.w, .int .i64 x.h, .slice a x.px.length c], .agg #[.int .i64 x.w, .int .i64 x.h, .slice b x.px.length c2]]) Tryz.func83 rfl Tryz.ntmps83 rfl (Qb (Qa (Q9 rfl rfl rfl ?_)))
 intro g1
 refine Q9 rfl rfl rfl ?_
 intro g2
 refine Qe rfl rfl (WpL.nil (Qb (Qa (Qj (o2 := 0) rfl rfl rfl (Qo rfl rfl (by rfl) ?_)))))
 refine Qj (o2 := 0) rfl rfl rfl (Qo rfl rfl (by rfl) ?_)
 refine QN rfl rfl rfl (Qc rfl rfl (Qx (dj := 10) rfl (decide_eq_true rfl) ?_))
 refine Qf rfl rfl (Qj (o2 := 1) rfl rfl rfl (Qf rfl rfl (Qo rfl rfl (by rfl) ?_)))
 refine Qf rfl rfl (Qj (o2 := 1) rfl rfl rfl (Qf rfl rfl (Qo rfl rfl (by rfl) ?_)))
 refine Qf rfl rfl (QN rfl rfl rfl (Qt rfl rfl rfl (Qc rfl rfl (Qx (dj := 17) rfl (decide_eq_true rfl) ?_))))
 refine Qf rfl rfl (Qj (o2 := 2) rfl rfl rfl (Qf rfl rfl (Qo rfl rfl (by rfl) ?_)))
 refine Qf rfl rfl (Qj (o2 := 2) rfl rfl rfl (Qf rfl rfl (Qo rfl rfl (by rfl) ?_)))
 refine Qf rfl rfl (Qh rfl rfl (Take.skip (Take.skip Take.all)) (SameRowW_spec As a b c c2 x.px x.px hx hy hl) ?_)
 rintro _ _ ⟨rfl, rfl⟩
 refine Qt rfl rfl rfl (Qe rfl rfl (WpL.nil (Qi ?_)))
 apply RetQ.mk
 ·exact (Res.one rfl rfl)
 ·exact ⟨congrArg Value.bool (decide_eq_true rfl), rfl⟩
 ·exact (Take.app rfl).ent'

theorem Same10_true (As : List HP) (x : Img) (a b : Option Addr) (c c2 : Nat) (hx : RdsL As a (Xp x.px)) (hy : RdsL As b (Xp x.px)) (hl : x.px.length ≤ 9223372036854775807) : Fn Tryz.prog 40 #[.agg (mC x a c).toArray, .agg (mC x b c2).toArray] As (fun v l => v = .bool true ∧ l = As) := by
 refine Qk (vs := [.agg (mC x a c).toArray, .agg (mC x b c2).toArray]) Tryz.func40 rfl Tryz.ntmps40 rfl (Qb (Qa (Q9 rfl rfl rfl ?_)))
 intro g1
 refine Q9 rfl rfl rfl ?_
 intro g2
 refine Qe rfl rfl (WpL.nil (Qb (Qa (Qj (o2 := 2) rfl rfl rfl ?_))))
 refine QI (vs := [_, _, _]) rfl rfl rfl (by rfl) ?_
 refine Qj (o2 := 2) rfl rfl rfl ?_
 refine QI (vs := [_, _, _]) rfl rfl rfl (by rfl) ?_
 refine Qh rfl rfl (Take.skip (Take.skip Take.all)) (Same03_true As x a b c c2 hx hy hl) ?_
 rintro _ _ ⟨rfl, rfl⟩
 refine WpL.ent Ent.comm ?_
 simp only [Qr]
 refine Qe rfl rfl (WpL.nil (Qb (Qa (Qc rfl rfl (Qc rfl rfl (Qf rfl rfl (Qj (o2 := 0) rfl rfl rfl (Qf rfl rfl ?_))))))))
 refine QI (vs := [_, _]) rfl rfl rfl (by rfl) ?_
 refine Qf rfl rfl (Qj (o2 := 0) rfl rfl rfl (Qf rfl rfl ?_))
 refine QI (vs := [_, _]) rfl rfl rfl (by rfl) ?_
 refine Qf rfl rfl (s_aeq [x.c, x.m] [x.c, x.m] rfl rfl rfl rfl rfl (Qt rfl rfl rfl (Qe rfl rfl (WpL.nil (Qi ?_)))))
 apply RetQ.mk
 ·exact (Res.one rfl rfl)
 ·exact ⟨congrArg Value.bool (decide_eq_true rfl), rfl⟩
 ·exact Ent.drop (Ent.drop (Ent.refl _))

theorem SameAll_true (As : List HP) (La Lb : ImL) (a b : Option Addr) (c c2 : Nat) (hab : La.map (·.1) = Lb.map (·.1)) (hA : RdsL As a (mCs La)) (hB : RdsL As b (mCs Lb)) (hra : ∀ r ∈ La, RdsL As r.2.1 (Xp r.1.px)) (hrb : ∀ r ∈ Lb, RdsL As r.2.1 (Xp r.1.px)) (hl : ∀ r ∈ La, r.1.px.length ≤ 9223372036854775807) (hn : La.length ≤ 1000000000) : Fn Tryz.prog 29 #[.slice a La.length c, .slice b La.length c2] As (fun v l => v = .bool true ∧ l = As) := by
 have hlen : La.length = Lb.length := by simpa using congrArg List.length hab
 refine Qk (vs := [.slice a La.length c, .slice b La.length c2]) Tryz.func29 rfl Tryz.ntmps29 rfl (Qb (Qa (Qe rfl rfl (WpL.nil (Qb (Qb (Qa (Qc rfl rfl (QC rfl rfl (Qc rfl rfl (QC rfl rfl (Xn rfl rfl rfl ?_))))))))))))
 refine WpL.nil (Qz rfl (by omega) ?_)
 refine Wp.skip (Qb (Qb (Qa (Qe rfl rfl (WpL.nil (Wp.block ?_))))))
 refine Wp.loopD (σ := Nat) (fun i => i ≤ La.length) [4, 5, 6, 12, 13, 14, 15, 16, 17, 18, 19, 20, 21, 22, 23, 24, 25, 26, 27, 28] (fun i => [(5, .int .i64 (i : Int))]) (fun _ => _) (fun i => La.length - i) 0 ?_ (by repeat (first | exact FrLe.nil | refine FrLe.cons rfl ?_)) (Ent.refl _) ?_
 ·exact Nat.zero_le _
 ·intro i hi
  refine Qb (Qb (Qa (Qc rfl rfl (Qc rfl rfl (QC rfl rfl (Q7 rfl rfl rfl (WpL.nil (Ql rfl (fun h2 => ?_) (fun h2 => ?_)))))))))
  ·have hia : i < La.length := by omega
   have hib : i < Lb.length := by omega
   have hna := mCs_ne La hia
   have hnb := mCs_ne Lb hib
   have e1 : Lb[i].1 = La[i].1 := by have q := congrArg (fun l => l[i]?) hab; simp only [List.getElem?_map, List.getElem?_eq_getElem hia, List.getElem?_eq_getElem hib, Option.map_some, Option.some.injEq] at q; exact q.symm
   have hxa := hra _ (List.getElem_mem hia)
   have hxb := hrb _ (List.getElem_mem hib)
   rw [e1] at hxb
   have hsb := mCs_seg Lb hib
   rw [e1] at hsb
   have hli := hl _ (List.getElem_mem hia)
   refine Wp.skip (Qb (Wp.block ?_))
   refine Qb ?_
   apply Q0 mixed [⟨18, _, []⟩, ⟨19, _, []⟩, ⟨20, _, [0, 1]⟩, ⟨21, _, [2]⟩, ⟨22, _, []⟩, ⟨23, _, []⟩, ⟨24, _, [4, 5]⟩, ⟨25, _, [6]⟩, ⟨26, _, [3, 7]⟩, ⟨6, _, [8, 0, 1, 2, 3, 4, 5, 6, 7]⟩] rfl
   ·refine AllObs.mk ?_ ?_
    ·exact Qc rfl rfl (Qm rfl)
    refine AllObs.mk ?_ ?_
    ·exact Qc rfl rfl (Qm rfl)
    refine AllObs.mk ?_ ?_
    ·refine Zp (s := 5) i rfl rfl rfl hA (by (repeat (exact Ent.refl _))) rfl (by omega) hna ?_
     exact Qm rfl
    refine AllObs.mk ?_ ?_
    ·refine ZU (vs := mC La[i].1 La[i].2.1 La[i].2.2) rfl rfl hA (by (repeat (exact Ent.refl _))) hna rfl (mCs_seg La hia) ?_
     exact Qm rfl
    refine AllObs.mk ?_ ?_
    ·exact Qc rfl rfl (Qm rfl)
    refine AllObs.mk ?_ ?_
    ·exact Qc rfl rfl (Qm rfl)
    refine AllObs.mk ?_ ?_
    ·refine Zp (s := 5) i rfl rfl rfl hB (by (repeat (exact Ent.refl _))) rfl (by omega) hnb ?_
     exact Qm rfl
    refine AllObs.mk ?_ ?_
    ·refine ZU (vs := mC La[i].1 Lb[i].2.1 Lb[i].2.2) rfl rfl hB (by (repeat (exact Ent.refl _))) hnb rfl hsb ?_
     exact Qm rfl
    refine AllObs.mk ?_ ?_
    ·refine Qh rfl rfl Take.all (Same10_true As La[i].1 La[i].2.1 Lb[i].2.1 La[i].2.2 Lb[i].2.2 hxa hxb hli) ?_
     rintro _ _ ⟨rfl, rfl⟩
     rw [List.append_nil]
     exact WpL.nil ⟨rfl, rfl, rfl, by exact Ent.refl _⟩
    refine AllObs.mk ?_ ?_
    ·exact Qe rfl rfl (Qm rfl)
    exact AllObs.nil
   ·refine Qb (Qa (Qc rfl rfl (Zq rfl rfl (WpL.nil (QZ rfl (Wp.skip (Qa (Qc rfl rfl (QD rfl rfl rfl (Qu (by omega) (by omega)) ?_)))))))))
    refine Qe rfl rfl (WpL.nil (Qv (i + 1) ?_ ?_ (by ((repeat (first | exact Top.refl | refine Top.push rfl ?_)); done)) (by repeat (first | exact FrLe.nil | refine FrLe.cons rfl ?_)) ?_))
    ·omega
    ·omega
    ·exact Ent.refl _
  ·refine QM (Qb (Qa (Qe rfl rfl (WpL.nil (Qi ?_)))))
   apply RetQ.mk
   ·exact (Res.one rfl rfl)
   ·exact ⟨rfl, rfl⟩
   ·exact Ent.refl _

end Go.Proofs.YtggamdlpiejbiaaGreat
namespace Go.Proofs.YtggamdlpiejbiaaGreat
open Go.RowKit Go.Shelf


section
variable {P : Program} {n : Cx} {D : List Deferred} {ops : Array Oper} {rest : List Oper} {Q : Post} {fr : Fr} {l : List HP}
theorem WpL.manyMax {α : Type} {T : Nat} {row : α → List Int} {L : List (α × Option Addr × Nat)} (he : Ent l [YO (L.map fun r => QG T 1 r.2.1 r.2.2 (row r.1).length (Xp (row r.1)))]) (k : (∀ r ∈ L, (row r.1).length ≤ 9223372036854775807) → WpL P n D ops rest Q fr l) : WpL P n D ops rest Q fr l := fun A w U hh hs =>
  k (fun r hr => by
    obtain ⟨S, hp, _⟩ := (he.trans (many_mem (List.mem_map_of_mem hr))) w U hs
    exact own_max hp) A w U hh hs
end

end Go.Proofs.YtggamdlpiejbiaaGreat
namespace Go.Proofs.YtggamdlpiejbiaaGreat
open Go.RowKit Go.Shelf

theorem kindsF_bad {C M : Int} (h : ¬ YF C M) : QJ C M = [] := if_neg h
theorem kindsF_3 {C M : Int} (h : YF C M) (h3 : C = 3) : QJ C M = [3, 6] := by
  subst h3
  rw [QJ, if_pos h]
  have : kUp 3 M 7 = [3, 6] := by simp [kUp, kP, List.range_succ]
  exact this
theorem kindsF_1 {C M : Int} (h : YF C M) (h3 : ¬ C = 3) (h1 : M = 1) : QJ C M = [1, 2, 4, 5] := by
  subst h1
  rw [QJ, if_pos h]
  simp [kUp, kP, List.range_succ, h3]
theorem kindsF_2 {C M : Int} (h : YF C M) (h3 : ¬ C = 3) (h1 : ¬ M = 1) : QJ C M = [2, 5] := by
  rw [QJ, if_pos h]
  simp [kUp, kP, List.range_succ, h3, h1]

theorem Z8 {g T m : Nat} {cs : List Value} {l F : List HP} (hm : cs.length = m) (h : m ≤ 1000) (he : Ent l (QA g cs T :: F)) : Ent l (QG T 1 (some ⟨g, 0, none⟩) m m cs :: F) := he.trans (Ent.own_blkS (by omega) (by omega))

theorem iKinds_spec (C M : Int) : Fn Tryz.prog 44 #[.agg #[.int .i64 C, .int .i64 M]] [] (fun v l => ∃ a c, v = .slice a (QJ C M).length c ∧ l = [QG 3 1 a c (QJ C M).length (QY (QJ C M))]) := by
 refine Qk (vs := [.agg #[.int .i64 C, .int .i64 M]]) Tryz.func44 rfl Tryz.ntmps44 rfl (Qb (Qa (Q9 rfl rfl rfl ?_)))
 intro g1
 refine Qe rfl rfl (WpL.nil (Qb (Wp.block ?_)))
 refine Qb (Qa ?_)
 refine QI (vs := [_, _]) rfl rfl rfl (by rfl) ?_
 refine Qh rfl rfl (by repeat' constructor) (Zr _ _) ?_
 rintro _ _ ⟨rfl, rfl⟩
 simp only [Qr]
 refine XN rfl rfl (Qe rfl rfl (WpL.nil (Ql rfl (fun h0 => ?_) (fun h0 => ?_))))
 ·refine Qb (Qa (Qe rfl rfl (WpL.nil (Qi ?_))))
  apply RetQ.mk
  ·exact (Res.one rfl rfl)
  ·exact ⟨none, 0, by rw [kindsF_bad (by assumption)]; rfl, rfl⟩
  ·rw [kindsF_bad (by assumption)]
   exact Ent.own_nil (Ent.nil _)
 ·have hf := Classical.not_not.1 h0
  refine Qb (Qa (Qj (o2 := 0) rfl rfl rfl (Qo rfl rfl (by rfl) ?_)))
  refine QN rfl rfl rfl (Qe rfl rfl (WpL.nil (Ql rfl (fun h1 => ?_) (fun h1 => ?_))))
  ·refine Qb (Qa ?_)
   refine s_bs2 rfl rfl rfl rfl rfl rfl ?_
   intro gK
   refine Qe rfl rfl (WpL.nil (Qi ?_))
   apply RetQ.mk
   ·exact (Res.one rfl rfl)
   ·exact ⟨some ⟨gK, 0, none⟩, 2, by rw [kindsF_3 (by assumption) (by assumption)]; rfl, rfl⟩
   ·rw [kindsF_3 (by assumption) (by assumption)]
    exact Z8 rfl (by decide) (Take.ent' (by repeat' constructor))
  ·refine Qb (Qa (Qj (o2 := 1) rfl rfl rfl (Qo rfl rfl (by rfl) ?_)))
   refine QN rfl rfl rfl (Qe rfl rfl (WpL.nil (Ql rfl (fun h2 => ?_) (fun h2 => ?_))))
   ·refine Qb (Qa ?_)
    refine s_bs4 rfl rfl rfl rfl rfl rfl rfl rfl rfl rfl ?_
    intro gK
    refine Qe rfl rfl (WpL.nil (Qi ?_))
    apply RetQ.mk
    ·exact (Res.one rfl rfl)
    ·exact ⟨some ⟨gK, 0, none⟩, 4, by rw [kindsF_1 (by assumption) (by assumption) (by assumption)]; rfl, rfl⟩
    ·rw [kindsF_1 (by assumption) (by assumption) (by assumption)]
     exact Z8 rfl (by decide) (Take.ent' (by repeat' constructor))
   ·refine Wp.skip (Qb (Qa ?_))
    refine s_bs2 rfl rfl rfl rfl rfl rfl ?_
    intro gK
    refine Qe rfl rfl (WpL.nil (Qi ?_))
    apply RetQ.mk
    ·exact (Res.one rfl rfl)
    ·exact ⟨some ⟨gK, 0, none⟩, 2, by rw [kindsF_2 (by assumption) (by assumption) (by assumption)]; rfl, rfl⟩
    ·rw [kindsF_2 (by assumption) (by assumption) (by assumption)]
     exact Z8 rfl (by decide) (Take.ent' (by repeat' constructor))

theorem sIndex_spec (As : List HP) (a : Option Addr) (c : Nat) (zs : List Int) (x : Int) (hA : RdsL As a (QY zs)) (hl : zs.length ≤ 1000000000) : Fn Tryz.prog 147 #[.slice a zs.length c, .int .i64 x] As (fun v l => ∃ r : Int, v = .int .i64 r ∧ (0 ≤ r ↔ x ∈ zs) ∧ l = As) := by
 refine Qk (vs := [.slice a zs.length c, .int .i64 x]) Tryz.func147 rfl Tryz.ntmps147 rfl (Qb (Qa (Qe rfl rfl (WpL.nil (Qb (Qb (Qa (Qc rfl rfl (QC rfl rfl (Qc rfl rfl (WpL.nil (Wp.block ?_))))))))))))
 refine Wp.loopD (σ := Nat) (fun k => k ≤ zs.length ∧ x ∉ zs.take k) [4, 5, 8, 9, 10, 11, 12, 13, 14, 15, 16, 17, 18] (fun k => [(8, .int .i64 (k : Int))]) (fun _ => _) (fun k => zs.length - k) 0 ?_ (by repeat (first | exact FrLe.nil | refine FrLe.cons rfl ?_)) (Ent.refl _) ?_
 ·exact ⟨Nat.zero_le _, by simp⟩
 ·rintro k ⟨hk, hf⟩
  refine Qb (Qa (Q7 rfl rfl rfl (WpL.nil (Qb (Ql rfl (fun h1 => ?_) (fun h1 => ?_))))))
  ·have hlt : k < zs.length := by omega
   refine Wp.skip (Qb (Wp.block ?_))
   refine Qb (Qa (Qc rfl rfl (Qe rfl rfl (WpL.nil (Qb (Qa (Qc rfl rfl (Qc rfl rfl (Qc rfl rfl (Q4 k rfl rfl rfl hA (Ent.refl _) rfl (by omega) (by rw [QT]; omega) ?_))))))))))
   refine Q5 rfl rfl hA (Ent.refl _) (Xi zs hlt) ?_
   refine QN rfl rfl rfl (WpL.nil (Ql rfl (fun h2 => ?_) (fun h2 => ?_)))
   ·refine Qb (Qa (Qc rfl rfl (Qe rfl rfl (WpL.nil (Qi ?_)))))
    apply RetQ.mk
    ·exact (Res.one rfl rfl)
    ·exact ⟨_, rfl, ⟨fun _ => h2 ▸ List.getElem_mem hlt, fun _ => by omega⟩, rfl⟩
    ·exact Ent.refl _
   ·refine Wp.skip (Qa (QD rfl rfl rfl (Qu (by omega) (by omega)) ?_))
    refine Qc rfl rfl (WpL.nil (Qv (k + 1) ?_ ?_ (by ((repeat (first | exact Top.refl | refine Top.push rfl ?_)); done)) (by repeat (first | exact FrLe.nil | refine FrLe.cons rfl ?_)) ?_))
    ·refine ⟨by omega, fun hp => ?_⟩
     rw [List.take_succ_eq_append_getElem hlt] at hp
     rcases List.mem_append.1 hp with hp | hp
     ·exact hf hp
     ·exact h2 (List.mem_singleton.1 hp)
    ·omega
    ·exact Ent.refl _
  ·refine QM (Qb (Qa (Qe rfl rfl (WpL.nil (Qi ?_)))))
   apply RetQ.mk
   ·exact (Res.one rfl rfl)
   ·have hke : k = zs.length := by omega
    rw [hke, List.take_length] at hf
    exact ⟨_, rfl, ⟨fun h => by omega, fun h => absurd h hf⟩, rfl⟩
   ·exact Ent.refl _

theorem sContains_spec (As : List HP) (a : Option Addr) (c : Nat) (zs : List Int) (x : Int) (hA : RdsL As a (QY zs)) (hl : zs.length ≤ 1000000000) : Fn Tryz.prog 92 #[.slice a zs.length c, .int .i64 x] As (fun v l => v = .bool (decide (x ∈ zs)) ∧ l = As) := by
 refine Qk (vs := [.slice a zs.length c, .int .i64 x]) Tryz.func92 rfl Tryz.ntmps92 rfl (Qb (Qa (Qe rfl rfl (WpL.nil (Qb (Qa (Qc rfl rfl (Qc rfl rfl (Qh rfl rfl Take.all (sIndex_spec As a c zs x hA hl) ?_)))))))))
 rintro _ _ ⟨ri, rfl, hri, rfl⟩
 rw [List.append_nil]
 refine s_ge rfl rfl rfl (Qe rfl rfl (WpL.nil (Qi ?_)))
 apply RetQ.mk
 ·exact (Res.one rfl rfl)
 ·exact ⟨congrArg Value.bool (decide_eq_decide.2 hri), rfl⟩
 ·exact Ent.refl _

theorem rcSized_spec (w h : Int) : Fn Tryz.prog 172 #[.int .i64 w, .int .i64 h] [] (fun v l => v = .bool (decide (XI w h)) ∧ l = []) := by
 refine Qk (vs := [.int .i64 w, .int .i64 h]) Tryz.func172 rfl Tryz.ntmps172 rfl (Qb (Qa (Qe rfl rfl (WpL.nil (Qb (Qa (Qc rfl rfl (s_ge rfl rfl rfl (Qc rfl rfl (QK rfl rfl rfl (fun hg1 => ?_) (fun hg1 => ?_)))))))))))
 ·have hg1 := of_decide_eq_true hg1
  refine Qc rfl rfl (Qf rfl rfl (s_le rfl rfl rfl (Qt rfl rfl rfl (Qc rfl rfl (QK rfl rfl rfl (fun hg2 => ?_) (fun hg2 => ?_))))))
  ·have hg2 := of_decide_eq_true hg2
   refine Qc rfl rfl (Qf rfl rfl (s_ge rfl rfl rfl (Qt rfl rfl rfl (Qc rfl rfl (QK rfl rfl rfl (fun hg3 => ?_) (fun hg3 => ?_))))))
   ·have hg3 := of_decide_eq_true hg3
    refine Qc rfl rfl (Qf rfl rfl (s_le rfl rfl rfl (Qt rfl rfl rfl (Qc rfl rfl (QK rfl rfl rfl (fun hg4 => ?_) (fun hg4 => ?_))))))
    ·have hg4 := of_decide_eq_true hg4
     have hmb := sz_mul (w := w) (h := h) (by omega) (by omega)
     refine Qc rfl rfl (Qf rfl rfl (Qc rfl rfl (Qf rfl rfl (XK rfl rfl rfl (Qu (by omega) (by omega)) ?_))))
     refine Qf rfl rfl (s_le rfl rfl rfl (Qt rfl rfl rfl (Qe rfl rfl (WpL.nil (Qi ?_)))))
     apply RetQ.mk
     ·exact (Res.one rfl rfl)
     ·exact ⟨congrArg Value.bool (decide_eq_decide.2 (by unfold XI; omega)), rfl⟩
     ·exact Ent.refl _
    ·have hg4 := of_decide_eq_false hg4
     refine Qd rfl rfl rfl (by decide) (Qd rfl rfl rfl (by decide) (Qd rfl rfl rfl (by decide) (Qs rfl rfl rfl (Qe rfl rfl (WpL.nil (Qi ?_))))))
     apply RetQ.mk
     ·exact (Res.one rfl rfl)
     ·exact ⟨by rw [decide_eq_false (show ¬XI w h by unfold XI; omega)], rfl⟩
     ·exact Ent.refl _
   ·have hg3 := of_decide_eq_false hg3
    refine Qd rfl rfl rfl (by decide) (Qs rfl rfl rfl (Qc rfl rfl (Qd rfl rfl rfl (by decide) (Qd rfl rfl rfl (by decide) (Qd rfl rfl rfl (by decide) (Qd rfl rfl rfl (by decide) (Qs rfl rfl rfl (Qe rfl rfl (WpL.nil (Qi ?_))))))))))
    apply RetQ.mk
    ·exact (Res.one rfl rfl)
    ·exact ⟨by rw [decide_eq_false (show ¬XI w h by unfold XI; omega)], rfl⟩
    ·exact Ent.refl _
  ·have hg2 := of_decide_eq_false hg2
   refine Qd rfl rfl rfl (by decide) (Qs rfl rfl rfl (Qc rfl rfl (Qd rfl rfl rfl (by decide) (Qd rfl rfl rfl (by decide) (Qs rfl rfl rfl (Qc rfl rfl (Qd rfl rfl rfl (by decide) (Qd rfl rfl rfl (by decide) (Qd rfl rfl rfl (by decide) (Qd rfl rfl rfl (by decide) (Qs rfl rfl rfl (Qe rfl rfl ?_))))))))))))
   refine WpL.nil (Qi ?_)
   apply RetQ.mk
   ·exact (Res.one rfl rfl)
   ·exact ⟨by rw [decide_eq_false (show ¬XI w h by unfold XI; omega)], rfl⟩
   ·exact Ent.refl _
 ·have hg1 := of_decide_eq_false hg1
  refine Qd rfl rfl rfl (by decide) (Qs rfl rfl rfl (Qc rfl rfl (Qd rfl rfl rfl (by decide) (Qd rfl rfl rfl (by decide) (Qs rfl rfl rfl (Qc rfl rfl (Qd rfl rfl rfl (by decide) (Qd rfl rfl rfl (by decide) (Qs rfl rfl rfl (Qc rfl rfl (Qd rfl rfl rfl (by decide) (Qd rfl rfl rfl (by decide) ?_))))))))))))
  refine Qd rfl rfl rfl (by decide) (Qd rfl rfl rfl (by decide) (Qs rfl rfl rfl (Qe rfl rfl (WpL.nil (Qi ?_)))))
  apply RetQ.mk
  ·exact (Res.one rfl rfl)
  ·exact ⟨by rw [decide_eq_false (show ¬XI w h by unfold XI; omega)], rfl⟩
  ·exact Ent.refl _

theorem rcMay_spec (W H : Int) (a : Option Addr) (n c : Nat) : Fn Tryz.prog 129 #[.agg #[.int .i64 W, .int .i64 H, .slice a n c]] [] (fun v l => v = .bool (decide (XI W H ∧ (n : Int) = W * H)) ∧ l = []) := by
 refine Qk (vs := [.agg #[.int .i64 W, .int .i64 H, .slice a n c]]) Tryz.func129 rfl Tryz.ntmps129 rfl (Qb (Qa (Q9 rfl rfl rfl ?_)))
 intro g1
 refine Qe rfl rfl (WpL.nil (Qb (Qa (Qj (o2 := 0) rfl rfl rfl (Qo rfl rfl (by rfl) ?_)))))
 refine Qj (o2 := 1) rfl rfl rfl (Qo rfl rfl (by rfl) ?_)
 refine Qh rfl rfl (by repeat' constructor) (rcSized_spec _ _) ?_
 rintro _ _ ⟨rfl, rfl⟩
 simp only [Qr]
 refine Qc rfl rfl (QK rfl rfl rfl (fun hg1 => ?_) (fun hg1 => ?_))
 ·have hg1 := of_decide_eq_true hg1
  have hsz2 := hg1
  unfold XI at hsz2
  have hmb := sz_mul hsz2.1 hsz2.2.1
  refine Qj (o2 := 2) rfl rfl rfl (Qf rfl rfl (Qo rfl rfl (by rfl) ?_))
  refine Qf rfl rfl (QC rfl rfl (Qf rfl rfl (Qj (o2 := 0) rfl rfl rfl (Qf rfl rfl (Qo rfl rfl (by rfl) ?_)))))
  refine Qf rfl rfl (Qj (o2 := 1) rfl rfl rfl (Qf rfl rfl (Qo rfl rfl (by rfl) ?_)))
  refine Qf rfl rfl (XK rfl rfl rfl (Qu (by omega) (by omega)) ?_)
  refine Qf rfl rfl (QN rfl rfl rfl (Qt rfl rfl rfl (Qe rfl rfl (WpL.nil (Qi ?_)))))
  apply RetQ.mk
  ·exact (Res.one rfl rfl)
  ·exact ⟨congrArg Value.bool (decide_eq_decide.2 ⟨fun q => ⟨hg1, q⟩, fun q => q.2⟩), rfl⟩
  ·exact Ent.nil _
 ·have hg1 := of_decide_eq_false hg1
  refine Qd rfl rfl rfl (by decide) (Qd rfl rfl rfl (by decide) (Qd rfl rfl rfl (by decide) (Qd rfl rfl rfl (by decide) (Qd rfl rfl rfl (by decide) (Qd rfl rfl rfl (by decide) (Qd rfl rfl rfl (by decide) (Qd rfl rfl rfl (by decide) (Qs rfl rfl rfl (Qe rfl rfl (WpL.nil (Qi ?_)))))))))))
  apply RetQ.mk
  ·exact (Res.one rfl rfl)
  ·exact ⟨by rw [decide_eq_false (fun q => hg1 q.1)], rfl⟩
  ·exact Ent.nil _

end Go.Proofs.YtggamdlpiejbiaaGreat
namespace Go.Proofs.YtggamdlpiejbiaaGreat
open Go.RowKit Go.Shelf

theorem OddF_spec (g : Nat) (p ch mx : Int) (h0 : 0 ≤ p) (h1 : p < 18446744073709551616) : Fn Tryz.prog 131 #[.int .u64 p, .pointer (some ⟨g, 0, none⟩)] [QA g [.int .i64 ch, .int .i64 mx] 48] (fun v l => v = .bool (!decide (Yp p ch mx)) ∧ l = [QA g [.int .i64 ch, .int .i64 mx] 48]) := by
 refine Qk (vs := [.int .u64 p, .pointer (some ⟨g, 0, none⟩)]) Tryz.func131 rfl Tryz.ntmps131 rfl ?_
 refine Qb (Qa (Qe rfl rfl (WpL.nil (Qb (Qa (Qc rfl rfl ?_))))))
 refine QI (vs := [_, _]) rfl rfl rfl (by rfl) ?_
 refine Qh rfl rfl (by repeat' constructor) (Fits_spec _ _ _ h0 h1) ?_
 rintro _ _ ⟨rfl, rfl⟩
 simp only [Qr]
 refine Zq rfl rfl (Qe rfl rfl (WpL.nil (Qi ?_)))
 apply RetQ.mk
 ·exact (Res.one rfl rfl)
 ·exact ⟨rfl, rfl⟩
 ·exact Ent.refl _

theorem IndexOddF_spec (As : List HP) (a0 : Option Addr) (c0 : Nat) (px : List Int) (hA : RdsL As a0 (Xp px)) (hr : ∀ p ∈ px, 0 ≤ p ∧ p < 18446744073709551616) (hl : px.length ≤ 9223372036854775807) (g : Nat) (ch mx : Int) : Fn Tryz.prog 173 #[.slice a0 px.length c0, .func (.func 131) #[] #[.pointer (some ⟨g, 0, none⟩)]] (QA g [.int .i64 ch, .int .i64 mx] 48 :: As) (fun v l => ∃ r : Int, v = .int .i64 r ∧ (0 ≤ r ↔ ¬ ∀ p ∈ px, Yp p ch mx) ∧ l = QA g [.int .i64 ch, .int .i64 mx] 48 :: As) := by
 refine Qk (vs := [.slice a0 px.length c0, .func (.func 131) #[] #[.pointer (some ⟨g, 0, none⟩)]]) Tryz.func173 rfl Tryz.ntmps173 rfl ?_
 refine Qb (Qa (Qe rfl rfl (WpL.nil (Qb (Qb (Qa (Qc rfl rfl (QC rfl rfl (Qc rfl rfl (WpL.nil (Wp.block ?_)))))))))))
 refine Wp.loopD (σ := Nat) (fun k => k ≤ px.length ∧ ∀ p ∈ px.take k, Yp p ch mx) [4, 5, 8, 9, 10, 11, 12, 13, 14, 15, 16, 17, 18] (fun k => [(8, .int .i64 (k : Int))]) (fun k => QA g [.int .i64 ch, .int .i64 mx] 48 :: As) (fun k => px.length - k) 0 ?_ (by repeat (first | exact FrLe.nil | refine FrLe.cons rfl ?_)) ?_ ?_
 ·exact ⟨Nat.zero_le _, by simp⟩
 ·exact Ent.refl _
 ·rintro k ⟨hk, hf⟩
  refine Qb (Qa (Q7 rfl rfl rfl (WpL.nil (Qb (Ql rfl (fun h1 => ?_) (fun h1 => ?_))))))
  ·have hlt : k < px.length := by omega
   have hpb := hr _ (List.getElem_mem hlt)
   refine Wp.skip (Qb (Wp.block ?_))
   refine Qb (Qa (Qc rfl rfl (Qe rfl rfl (WpL.nil (Qb (Qa (Qc rfl rfl (Qc rfl rfl (Qc rfl rfl (Q4 k rfl rfl rfl hA (Ent.drop (Ent.refl _)) rfl (by omega) (by rw [X1]; omega) ?_))))))))))
   refine Q5 rfl rfl hA (Ent.drop (Ent.refl _)) (YP px hlt) ?_
   refine X3 (u := []) (c := [.pointer (some ⟨g, 0, none⟩)]) rfl rfl rfl rfl (by repeat' constructor) (OddF_spec g _ ch mx hpb.1 hpb.2) ?_
   rintro _ _ ⟨rfl, rfl⟩
   simp only [Qr]
   refine WpL.nil (X5 rfl (fun h2 => ?_) (fun h2 => ?_))
   ·refine Qb (Qa (Qc rfl rfl (Qe rfl rfl (WpL.nil (Qi ?_)))))
    apply RetQ.mk
    ·exact (Res.one rfl rfl)
    ·exact ⟨_, rfl, ⟨fun _ hall => (by have := hall _ (List.getElem_mem hlt); rw [decide_eq_true this] at h2; cases h2), fun _ => (by omega)⟩, rfl⟩
    ·exact Ent.refl _
   ·refine Wp.skip (Qa (QD rfl rfl rfl (Qu (by omega) (by omega)) ?_))
    refine Qc rfl rfl (WpL.nil (Qv (k + 1) ?_ ?_ (by ((repeat (first | exact Top.refl | refine Top.push rfl ?_)); done)) (by repeat (first | exact FrLe.nil | refine FrLe.cons rfl ?_)) ?_))
    ·refine ⟨by omega, fun p hp => ?_⟩
     rw [Xd px hlt] at hp
     rcases List.mem_append.1 hp with hp | hp
     ·exact hf p hp
     ·have := List.mem_singleton.1 hp; subst this; simpa using h2
    ·omega
    ·exact Ent.refl _
  ·refine QM (Qb (Qa (Qe rfl rfl (WpL.nil (Qi ?_)))))
   apply RetQ.mk
   ·exact (Res.one rfl rfl)
   ·have hke : k = px.length := by omega
    rw [hke, List.take_length] at hf
    exact ⟨_, rfl, ⟨fun h => by omega, fun h => absurd hf h⟩, rfl⟩
   ·exact Ent.refl _

theorem ContainsOddF_spec (As : List HP) (a0 : Option Addr) (c0 : Nat) (px : List Int) (hA : RdsL As a0 (Xp px)) (hr : ∀ p ∈ px, 0 ≤ p ∧ p < 18446744073709551616) (hl : px.length ≤ 9223372036854775807) (g : Nat) (ch mx : Int) : Fn Tryz.prog 130 #[.slice a0 px.length c0, .func (.func 131) #[] #[.pointer (some ⟨g, 0, none⟩)]] (QA g [.int .i64 ch, .int .i64 mx] 48 :: As) (fun v l => v = .bool (decide (¬ ∀ p ∈ px, Yp p ch mx)) ∧ l = QA g [.int .i64 ch, .int .i64 mx] 48 :: As) := by
 refine Qk (vs := [.slice a0 px.length c0, .func (.func 131) #[] #[.pointer (some ⟨g, 0, none⟩)]]) Tryz.func130 rfl Tryz.ntmps130 rfl ?_
 refine Qb (Qa (Qe rfl rfl (WpL.nil (Qb (Qa (Qc rfl rfl (Qc rfl rfl (Qh rfl rfl Take.all (IndexOddF_spec As a0 c0 px hA hr hl g ch mx) ?_))))))))
 rintro _ _ ⟨ri, rfl, hri, rfl⟩
 rw [List.append_nil]
 refine s_ge rfl rfl rfl (Qe rfl rfl (WpL.nil (Qi ?_)))
 apply RetQ.mk
 ·exact (Res.one rfl rfl)
 ·exact ⟨congrArg Value.bool (by rw [decide_eq_decide]; exact hri), rfl⟩
 ·exact Ent.refl _

theorem rcFits_spec (As : List HP) (W H : Int) (a : Option Addr) (c : Nat) (px : List Int) (C M : Int) (hA : RdsL As a (Xp px)) (hb : ∀ p ∈ px, 0 ≤ p ∧ p < 18446744073709551616) (hl : px.length ≤ 9223372036854775807) : Fn Tryz.prog 85 #[.agg #[.int .i64 W, .int .i64 H, .slice a px.length c], .agg #[.int .i64 C, .int .i64 M]] As (fun v l => v = .bool (decide (Yq C M W H px)) ∧ l = As) := by
 refine Qk (vs := [.agg #[.int .i64 W, .int .i64 H, .slice a px.length c], .agg #[.int .i64 C, .int .i64 M]]) Tryz.func85 rfl Tryz.ntmps85 rfl (Qb (Qa (Q9 rfl rfl rfl ?_)))
 intro gM
 refine Q9 rfl rfl rfl ?_
 intro gF
 refine Qe rfl rfl (WpL.nil (Qb (Qa ?_)))
 refine QI (vs := [_, _, _]) rfl rfl rfl (by rfl) ?_
 refine Qh rfl rfl (by repeat' constructor) (rcMay_spec _ _ _ _ _) ?_
 rintro _ _ ⟨rfl, rfl⟩
 simp only [Qr]
 refine Qc rfl rfl (QK rfl rfl rfl (fun hg1 => ?_) (fun hg1 => ?_))
 ·have hg1 := of_decide_eq_true hg1
  refine Qj (o2 := 2) rfl rfl rfl (Qf rfl rfl (Qo rfl rfl (by rfl) ?_))
  refine Qf rfl rfl (s_mkf rfl (fun a hh => X6 hh _ _ rfl) ?_)
  refine Qf rfl rfl (Qh rfl rfl (Take.cons .here (Take.skip Take.all)) (ContainsOddF_spec As a c px hA hb hl gF C M) ?_)
  rintro _ _ ⟨rfl, rfl⟩
  rw [show (QA gF [.int .i64 C, .int .i64 M] 48 :: As) ++ [QA gM [.int .i64 W, .int .i64 H, .slice a px.length c] 77] = QA gF [.int .i64 C, .int .i64 M] 48 :: (As ++ [QA gM [.int .i64 W, .int .i64 H, .slice a px.length c] 77]) from rfl]
  refine Qf rfl rfl (XN rfl rfl (Qt rfl rfl rfl (Qe rfl rfl (WpL.nil (Qi ?_)))))
  apply RetQ.mk
  ·exact (Res.one rfl rfl)
  ·exact ⟨congrArg Value.bool (decide_eq_decide.2 ⟨fun q => ⟨hg1.1, hg1.2, fun p hp => Classical.byContradiction fun z => q fun hall => z (hall p hp)⟩, fun q z => z q.2.2⟩), rfl⟩
  ·exact Ent.drop (Ent.left _ _)
 ·have hg1 := of_decide_eq_false hg1
  refine Qd rfl rfl rfl (by decide) (Qd rfl rfl rfl (by decide) (Qd rfl rfl rfl (by decide) (Qd rfl rfl rfl (by decide) (Qs rfl rfl rfl (Qe rfl rfl (WpL.nil (Qi ?_)))))))
  apply RetQ.mk
  ·exact (Res.one rfl rfl)
  ·exact ⟨by rw [decide_eq_false (fun q : Yq C M W H px => hg1 ⟨q.1, q.2.1⟩)], rfl⟩
  ·exact Ent.drop (Ent.drop (Ent.refl _))

theorem iMay_spec (As : List HP) (C M W H : Int) (a : Option Addr) (c : Nat) (px : List Int) (hA : RdsL As a (Xp px)) (hb : ∀ p ∈ px, 0 ≤ p ∧ p < 18446744073709551616) (hl : px.length ≤ 9223372036854775807) : Fn Tryz.prog 45 #[.agg #[.int .i64 C, .int .i64 M, .int .i64 W, .int .i64 H, .slice a px.length c]] As (fun v l => v = .bool (decide (Yq C M W H px)) ∧ l = As) := by
 refine Qk (vs := [.agg #[.int .i64 C, .int .i64 M, .int .i64 W, .int .i64 H, .slice a px.length c]]) Tryz.func45 rfl Tryz.ntmps45 rfl (Qb (Qa (Q9 rfl rfl rfl ?_)))
 intro g1
 refine Qe rfl rfl (WpL.nil (Qb (Qa (Qj (o2 := 2) rfl rfl rfl ?_))))
 refine QI (vs := [_, _, _]) rfl rfl rfl (by rfl) ?_
 refine Qj (o2 := 0) rfl rfl rfl ?_
 refine QI (vs := [_, _]) rfl rfl rfl (by rfl) ?_
 refine Qh rfl rfl (Zb [_] As) (rcFits_spec As W H a c px C M hA hb hl) ?_
 rintro _ _ ⟨rfl, rfl⟩
 refine Qe rfl rfl (WpL.nil (Qi ?_))
 apply RetQ.mk
 ·exact (Res.one rfl rfl)
 ·exact ⟨rfl, rfl⟩
 ·exact Ent.left _ _

theorem iHead_spec (As : List HP) (C M W H : Int) (a : Option Addr) (c : Nat) (px : List Int) (hA : RdsL As a (Xp px)) (hb : ∀ p ∈ px, 0 ≤ p ∧ p < 18446744073709551616) (hl : px.length ≤ 9223372036854775807) (k : Int) : Fn Tryz.prog 49 #[.agg #[.int .i64 C, .int .i64 M, .int .i64 W, .int .i64 H, .slice a px.length c], .int .i64 k] As (fun v l => ((k ∈ QJ C M ∧ Yq C M W H px) ∧ v = .tuple #[.agg #[.int .i64 k, .int .i64 W, .int .i64 H, .int .i64 M], .int .i64 0] ∨ ¬ (k ∈ QJ C M ∧ Yq C M W H px) ∧ v = .tuple #[.agg #[.int .i64 0, .int .i64 0, .int .i64 0, .int .i64 0], .int .i64 1]) ∧ l = As) := by
 refine Qk (vs := [.agg #[.int .i64 C, .int .i64 M, .int .i64 W, .int .i64 H, .slice a px.length c], .int .i64 k]) Tryz.func49 rfl Tryz.ntmps49 rfl (Qb (Qa (Q9 rfl rfl rfl ?_)))
 intro gI
 refine YE rfl ?_
 intro gH
 refine Qe rfl rfl (WpL.nil (Qb (Qb (Qa ?_))))
 refine QI (vs := [_, _, _, _, _]) rfl rfl rfl (by rfl) ?_
 refine Qh rfl rfl (Zb [_, _] As) (iMay_spec As C M W H a c px hA hb hl) ?_
 rintro _ _ ⟨rfl, rfl⟩
 refine WpL.ent Ent.comm ?_
 simp only [Qr]
 refine XN rfl rfl (Qc rfl rfl (QK rfl rfl rfl (fun hg1 => ?_) (fun hg1 => ?_)))
 ·have hg1 := of_decide_eq_false hg1
  refine Qj (o2 := 0) rfl rfl rfl (Qf rfl rfl ?_)
  refine QI (vs := [_, _]) rfl rfl rfl (by rfl) ?_
  refine Qf rfl rfl (Qh rfl rfl (by repeat' constructor) (iKinds_spec C M) ?_)
  rintro _ _ ⟨aK, cK, rfl, rfl⟩
  simp only [Qr]
  refine Qf rfl rfl (Qc rfl rfl (Qf rfl rfl (Qh rfl rfl (by repeat' constructor) (sContains_spec [QG 3 1 aK cK (QJ C M).length (QY (QJ C M))] aK cK (QJ C M) k QE (by have := kinds_len (C := C) (M := M); omega)) ?_)))
  rintro _ _ ⟨rfl, rfl⟩
  simp only [Qr]
  refine Qf rfl rfl (XN rfl rfl (Qs rfl rfl rfl (WpL.nil (Ql rfl (fun h0 => ?_) (fun h0 => ?_)))))
  ·refine Qb (Qa ?_)
   refine YI rfl rfl ?_
   refine XL rfl rfl rfl (by rfl) rfl ?_
   refine Qe rfl rfl (WpL.nil (Qi ?_))
   apply RetQ.mk
   ·exact (ZD rfl rfl (by rfl) rfl)
   ·exact ⟨.inr ⟨fun q => (by assumption : ¬ k ∈ QJ C M) q.1, rfl⟩, rfl⟩
   ·repeat (first | exact Ent.refl _ | refine Ent.drop ?_)
  ·refine Wp.skip (Qb (Qa (Qc rfl rfl (Qj (o2 := 2) rfl rfl rfl (Qj (o2 := 2) rfl rfl rfl (Qo rfl rfl (by rfl) ?_))))))
   refine Qj (o2 := 2) rfl rfl rfl (Qj (o2 := 3) rfl rfl rfl (Qo rfl rfl (by rfl) ?_))
   refine Qj (o2 := 0) rfl rfl rfl (Qj (o2 := 1) rfl rfl rfl (Qo rfl rfl (by rfl) ?_))
   refine YI rfl rfl ?_
   refine XL rfl rfl rfl (by rfl) rfl ?_
   refine Qe rfl rfl (WpL.nil (Qi ?_))
   apply RetQ.mk
   ·exact (ZD rfl rfl (by rfl) rfl)
   ·exact ⟨.inl ⟨⟨Classical.not_not.1 (by assumption), Classical.not_not.1 (by assumption)⟩, rfl⟩, rfl⟩
   ·repeat (first | exact Ent.refl _ | refine Ent.drop ?_)
 ·have hg1 := of_decide_eq_true hg1
  refine Qd rfl rfl rfl (by decide) (Qd rfl rfl rfl (by decide) (Qd rfl rfl rfl (by decide) (Qd rfl rfl rfl (by decide) (Qd rfl rfl rfl (by decide) (Qt rfl rfl rfl (WpL.nil (Xc rfl (Qb (Qa ?_)))))))))
  refine YI rfl rfl ?_
  refine XL rfl rfl rfl (by rfl) rfl ?_
  refine Qe rfl rfl (WpL.nil (Qi ?_))
  apply RetQ.mk
  ·exact (ZD rfl rfl (by rfl) rfl)
  ·exact ⟨.inr ⟨fun q => (by assumption : ¬ Yq C M W H px) q.2, rfl⟩, rfl⟩
  ·repeat (first | exact Ent.refl _ | refine Ent.drop ?_)

end Go.Proofs.YtggamdlpiejbiaaGreat
namespace Go.Proofs.YtggamdlpiejbiaaGreat
open Go.RowKit Go.Shelf

theorem readW_cons (K : Int) (W : Nat) (H M : Int) (c : Int) (bs : List Int) (s : RW) (acc : List Int) : Zo K W H M (c :: bs) s acc = if (Xj K W H M s c).1.last = 1 then (acc ++ (Xj K W H M s c).2, 0) else if (Xj K W H M s c).1.last = 2 then ([], (Xj K W H M s c).1.e) else Zo K W H M bs (Xj K W H M s c).1 (acc ++ (Xj K W H M s c).2) := rfl
theorem putW_st {K H M c : Int} {W : Nat} {s : RW} (hl : s.last = 0) : ((Xj K W H M s c).1.last = 0 ∨ (Xj K W H M s c).1.last = 1 ∨ (Xj K W H M s c).1.last = 2) ∧ ((Xj K W H M s c).1.last = 2 → (Xj K W H M s c).1.e = 5 ∧ (Xj K W H M s c).2 = []) := by
  unfold Xj
  rw [if_neg (by omega)]
  repeat' split
  all_goals simp
theorem row_flat (row : List Int) (t : Int) : (atE (XC row) t).flatMap (fun x => x.1.row) = row ∧ ∀ x ∈ atE (XC row) t, x.1.k = 2 := by
  unfold atE XC
  by_cases h : row = [] <;> simp [h]
theorem readW_run (l0 l1 l2 : Int) (h : HS) : ∀ (bs : List Int) (s : RW) (t imgs : Int) (acc : List Int), s.last = 0 →
    ((Zo h.K h.W.toNat h.H h.M bs s acc).2 = 0 ∧ imgs < (QL l0 l1 l2 ⟨some h, 2, .rw s, t, imgs, false, 0⟩ bs).1.imgs ∧ ∃ rows t' rest, (∀ x ∈ rows, x.1.k = 2) ∧ (QL l0 l1 l2 ⟨some h, 2, .rw s, t, imgs, false, 0⟩ bs).2 = rows ++ dnE t' :: rest ∧ (Zo h.K h.W.toNat h.H h.M bs s acc).1 = acc ++ rows.flatMap fun x => x.1.row) ∨
    ((Zo h.K h.W.toNat h.H h.M bs s acc) = ([], 5) ∧ (QL l0 l1 l2 ⟨some h, 2, .rw s, t, imgs, false, 0⟩ bs).1.e = 5 ∧ (QL l0 l1 l2 ⟨some h, 2, .rw s, t, imgs, false, 0⟩ bs).1.imgs = imgs) ∨
    ((Zo h.K h.W.toNat h.H h.M bs s acc) = ([], 6) ∧ (QL l0 l1 l2 ⟨some h, 2, .rw s, t, imgs, false, 0⟩ bs).1.e = 0 ∧ (QL l0 l1 l2 ⟨some h, 2, .rw s, t, imgs, false, 0⟩ bs).1.imgs = imgs)
  | [], s, t, imgs, acc, _ => .inr (.inr ⟨rfl, rfl, rfl⟩)
  | c :: bs, s, t, imgs, acc, hl => by
    have hq := put_rw l0 l1 l2 (h := h) (r := s) (told := t) (imgs := imgs) (c := c)
    have hr := YH l0 l1 l2 (bs := bs) hq
    have hst := putW_st (K := h.K) (W := h.W.toNat) (H := h.H) (M := h.M) (c := c) hl
    have hf := row_flat (Xj h.K h.W.toNat h.H h.M s c).2 (t + 1)
    rw [readW_cons]
    rcases hst.1 with h0 | h1 | h2
    · rw [hr.1 h0, if_neg (by omega), if_neg (by omega)]
      rcases readW_run l0 l1 l2 h bs (Xj h.K h.W.toNat h.H h.M s c).1 (t + 1) imgs (acc ++ (Xj h.K h.W.toNat h.H h.M s c).2) h0 with ⟨g1, g2, rows, t', rest, g3, g4, g5⟩ | g | g
      · refine .inl ⟨g1, g2, atE (XC (Xj h.K h.W.toNat h.H h.M s c).2) (t + 1) ++ rows, t', rest, ?_, ?_, ?_⟩
        · intro x hx
          rcases List.mem_append.1 hx with hx | hx
          · exact hf.2 x hx
          · exact g3 x hx
        · show _ ++ _ = _
          rw [g4, List.append_assoc]
        · rw [g5, List.flatMap_append, hf.1, List.append_assoc]
      · exact .inr (.inl g)
      · exact .inr (.inr g)
    · rw [hr.2.1 h1, if_pos h1]
      refine .inl ⟨rfl, ?_, atE (XC (Xj h.K h.W.toNat h.H h.M s c).2) (t + 1), t + 1, (QL l0 l1 l2 ⟨some h, 0, .no, t + 1, imgs + 1, false, 0⟩ bs).2, hf.2, ?_, ?_⟩
      · show _ < (QL l0 l1 l2 ⟨some h, 0, .no, t + 1, imgs + 1, false, 0⟩ bs).1.imgs
        rw [Vg]
        have : 0 ≤ Zk ((QL l0 l1 l2 ⟨some h, 0, .no, t + 1, imgs + 1, false, 0⟩ bs).2.map (·.1)) := by unfold Zk; omega
        show imgs < imgs + 1 + _
        omega
      · show (_ ++ [_]) ++ _ = _
        rw [List.append_assoc]; rfl
      · show acc ++ _ = acc ++ _
        rw [hf.1]
    · have he := (hst.2 h2).1
      rw [hr.2.2 h2 (by omega), if_neg (by omega), if_pos h2, he]
      exact .inr (.inl ⟨rfl, rfl, rfl⟩)
theorem readW_ind {K H M : Int} {W : Nat} : ∀ (bs : List Int) (b b' : List Int) (n : Nat) (rows e : Int) (acc : List Int), b.length = b'.length → n < b.length → b.take n = b'.take n → Zo K W H M bs ⟨b, n, rows, 0, e⟩ acc = Zo K W H M bs ⟨b', n, rows, 0, e⟩ acc
  | [], _, _, _, _, _, _, _, _, _ => rfl
  | c :: bs, b, b', n, rows, e, acc, hl, hn, ht => by
    have hs : (b.set n c).take (n + 1) = (b'.set n c).take (n + 1) := by
      rw [List.take_set, List.take_set, List.take_succ_eq_append_getElem hn, List.take_succ_eq_append_getElem (show n < b'.length by omega), ht, List.set_append_right _ _ (by rw [List.length_take]; omega), List.set_append_right _ _ (by rw [List.length_take]; omega)]
      rw [show n - (b'.take n).length = 0 by rw [List.length_take]; omega]
      rfl
    have hw := Q2 M
    have hsm : (n + 1) % Qg M = 0 → Xu (Qg M) (b.set n c) ((n + 1) / Qg M - 1) = Xu (Qg M) (b'.set n c) ((n + 1) / Qg M - 1) := fun hm => by
      have hx : ((n + 1) / Qg M - 1 + 1) * Qg M = n + 1 := by rcases hw with e | e <;> rw [e] at hm ⊢ <;> omega
      exact smp_take hw hs (by omega)
    have hsl : (b.set n c).length = (b'.set n c).length := by rw [List.length_set, List.length_set, hl]
    have p : ∀ b : List Int, Xj K W H M ⟨b, n, rows, 0, e⟩ c = (if K ≠ 4 ∧ (n + 1) % Qg M = 0 ∧ Xu (Qg M) (b.set n c) ((n + 1) / Qg M - 1) > M then (⟨b.set n c, n + 1, rows, 2, 5⟩, []) else if n + 1 < b.length then (⟨b.set n c, n + 1, rows, 0, e⟩, []) else (⟨b.set n c, 0, rows + 1, if rows + 1 = H then 1 else 0, e⟩, Yw K W (Qg M) (b.set n c))) := fun b => if_neg (by simp)
    rw [readW_cons, readW_cons, p b, p b']
    by_cases hb : K ≠ 4 ∧ (n + 1) % Qg M = 0 ∧ Xu (Qg M) (b.set n c) ((n + 1) / Qg M - 1) > M
    · have hb' : K ≠ 4 ∧ (n + 1) % Qg M = 0 ∧ Xu (Qg M) (b'.set n c) ((n + 1) / Qg M - 1) > M := ⟨hb.1, hb.2.1, by rw [← hsm hb.2.1]; exact hb.2.2⟩
      rw [if_pos hb, if_pos hb']
      rfl
    · have hb' : ¬ (K ≠ 4 ∧ (n + 1) % Qg M = 0 ∧ Xu (Qg M) (b'.set n c) ((n + 1) / Qg M - 1) > M) := fun q => hb ⟨q.1, q.2.1, by rw [hsm q.2.1]; exact q.2.2⟩
      rw [if_neg hb, if_neg hb']
      by_cases h1 : n + 1 < b.length
      · rw [if_pos h1, if_pos (show n + 1 < b'.length by omega)]
        simp only [show ¬ (0 : Int) = 1 by decide, show ¬ (0 : Int) = 2 by decide, if_false]
        exact readW_ind bs (b.set n c) (b'.set n c) (n + 1) rows e _ hsl (by rw [List.length_set]; exact h1) hs
      · have he : b.set n c = b'.set n c := by
          rw [List.take_of_length_le (by rw [List.length_set]; omega), List.take_of_length_le (by rw [List.length_set]; omega)] at hs
          exact hs
        rw [if_neg h1, if_neg (show ¬ n + 1 < b'.length by omega), he]
theorem badR_leT {K M : Int} {W H : Nat} {R : List Int} : Zj K W H M R ≤ ((R.take (QF K W (Qg M) * H)).length : Int) := by
  by_cases hK : K = 4
  · unfold Zj
    rw [if_pos hK]; omega
  · rw [badR_n4 hK]
    rcases badI_spec ((Qg M : Nat) : Int) M (Zw (Qg M) (R.take (QF K W (Qg M) * H))) 0 with ⟨h1, _⟩ | ⟨j, hj, _, _, h3⟩
    · rw [h1]; omega
    · rw [h3]
      have hl : (Zw (Qg M) (R.take (QF K W (Qg M) * H))).length = (R.take (QF K W (Qg M) * H)).length / Qg M := by simp [Zw]
      rw [hl] at hj
      have hw := Q2 M
      have : Qg M * (j + 1) ≤ (R.take (QF K W (Qg M) * H)).length := by
        rcases hw with e | e <;> rw [e] at hj ⊢ <;> omega
      have h4 : ((Qg M * (j + 1) : Nat) : Int) ≤ ((R.take (QF K W (Qg M) * H)).length : Int) := by exact_mod_cast this
      push_cast at h4
      rw [Int.zero_add]
      omega
def rowsF (K : Int) (W : Nat) (M : Int) (bs : List Int) (n : Nat) : List Int := (List.range n).flatMap fun y => Yw K W (Qg M) ((bs.drop (y * QF K W (Qg M))).take (QF K W (Qg M)))
/-- What a raw raster's bytes tell. -/
def rawF (K : Int) (W H : Nat) (M : Int) (bs : List Int) : List Int × Int := if Zj K W H M bs > 0 then ([], 5) else if bs.length < QF K W (Qg M) * H then ([], 6) else (rowsF K W M bs H, 0)
def rowsX (h : HS) (bs : List Int) (y : Nat) : List (Evt × Int) := (List.range y).map fun i => (⟨2, 0, 0, 0, 0, Yw h.K h.W.toNat (Qg h.M) ((bs.drop (0 + i * QF h.K h.W.toNat (Qg h.M))).take (QF h.K h.W.toNat (Qg h.M)))⟩, ((0 + (i + 1) * QF h.K h.W.toNat (Qg h.M) : Nat) : Int))
theorem rowsX_succ (h : HS) (bs : List Int) (y : Nat) : rowsX h bs (y + 1) = rowsX h bs y ++ [(⟨2, 0, 0, 0, 0, Yw h.K h.W.toNat (Qg h.M) ((bs.drop (0 + y * QF h.K h.W.toNat (Qg h.M))).take (QF h.K h.W.toNat (Qg h.M)))⟩, ((0 + (y + 1) * QF h.K h.W.toNat (Qg h.M) : Nat) : Int))] := by unfold rowsX; rw [List.range_succ, List.map_append]; rfl
theorem rowsX_flat (h : HS) (bs : List Int) (y : Nat) : (rowsX h bs y).flatMap (fun x => x.1.row) = rowsF h.K h.W.toNat h.M bs y := by
  unfold rowsX rowsF
  rw [List.flatMap_map]
  simp only [Nat.zero_add]
theorem rowsX_k (h : HS) (bs : List Int) (y : Nat) : ∀ x ∈ rowsX h bs y, x.1.k = 2 := by
  intro x hx
  obtain ⟨i, _, rfl⟩ := List.mem_map.1 hx
  rfl
theorem split3 : ∀ {a b : List (Evt × Int)} {t t' : Int} {r r' : List (Evt × Int)}, (∀ x ∈ a, x.1.k = 2) → (∀ x ∈ b, x.1.k = 2) → a ++ dnE t :: r = b ++ dnE t' :: r' → a = b
  | [], [], _, _, _, _, _, _, _ => rfl
  | x :: a, [], t, t', r, r', h1, _, e => by
    have := (List.cons.inj e).1
    have hk := h1 x (List.mem_cons_self ..)
    rw [this] at hk
    simp [dnE] at hk
  | [], y :: b, t, t', r, r', _, h2, e => by
    have := (List.cons.inj e).1
    have hk := h2 y (List.mem_cons_self ..)
    rw [← this] at hk
    simp [dnE] at hk
  | x :: a, y :: b, t, t', r, r', h1, h2, e => by
    obtain ⟨e1, e2⟩ := List.cons.inj e
    rw [e1, split3 (fun z hz => h1 z (List.mem_cons_of_mem _ hz)) (fun z hz => h2 z (List.mem_cons_of_mem _ hz)) e2]
theorem readW_body {h : HS} (hf : YC h) (bs : List Int) : ∀ (m y : Nat), m + y = h.H.toNat → rwI 1 1 1 h bs 0 0 y (rowsX h bs y) → y * QF h.K h.W.toNat (Qg h.M) ≤ bs.length → ¬ (Zj h.K h.W.toNat h.H.toNat h.M bs > 0 ∧ Zj h.K h.W.toNat h.H.toNat h.M bs ≤ ((y * QF h.K h.W.toNat (Qg h.M) : Nat) : Int)) →
    Zo h.K h.W.toNat h.H h.M bs (rw0 h) [] = rawF h.K h.W.toNat h.H.toNat h.M bs := by
  have hM := hf.2.2
  unfold Xv at hM
  have hble := badR_leT (K := h.K) (M := h.M) (W := h.W.toNat) (H := h.H.toNat) (R := bs)
  rw [List.length_take] at hble
  have hrun := readW_run 1 1 1 h bs (rw0 h) 0 0 [] rfl
  intro m
  induction m with
  | zero =>
    intro y hm hI hy hb
    have hyH : (y : Int) = h.H := by omega
    have hI2 := hI.2 hyH
    rw [List.drop_zero] at hI2
    have hyn : y = h.H.toNat := by omega
    subst hyn
    have hmul : h.H.toNat * QF h.K h.W.toNat (Qg h.M) = QF h.K h.W.toNat (Qg h.M) * h.H.toNat := Nat.mul_comm _ _
    have hnb : ¬ Zj h.K h.W.toNat h.H.toNat h.M bs > 0 := fun q => hb ⟨q, by rw [hmul]; omega⟩
    unfold rawF
    rw [if_neg hnb, if_neg (by rw [← hmul]; omega)]
    have hpr : QL 1 1 1 ⟨some h, 2, .rw (rw0 h), ((0 : Nat) : Int), 0, false, 0⟩ bs = QL 1 1 1 ⟨some h, 2, .rw (rw0 h), 0, 0, false, 0⟩ bs := rfl
    rcases hrun with ⟨g1, g2, rows, t', rest, g3, g4, g5⟩ | ⟨_, _, g2⟩ | ⟨_, _, g2⟩
    · rw [← hpr, hI2] at g4
      have e := split3 (rowsX_k h bs _) g3 (by rw [← g4]; show _ = (_ ++ [_]) ++ _; rw [List.append_assoc]; rfl)
      subst e
      refine Prod.ext ?_ g1
      rw [g5, rowsX_flat]; rfl
    · exfalso
      rw [← hpr, hI2] at g2
      have q := Vg 1 1 1 (bs.drop (0 + h.H.toNat * QF h.K h.W.toNat (Qg h.M))) ⟨some h, 0, .no, ((0 + h.H.toNat * QF h.K h.W.toNat (Qg h.M) : Nat) : Int), 0 + 1, false, 0⟩
      have z : 0 ≤ Zk ((QL 1 1 1 ⟨some h, 0, .no, ((0 + h.H.toNat * QF h.K h.W.toNat (Qg h.M) : Nat) : Int), 0 + 1, false, 0⟩ (bs.drop (0 + h.H.toNat * QF h.K h.W.toNat (Qg h.M)))).2.map (·.1)) := by unfold Zk; omega
      simp only [Ye] at g2
      rw [g2] at q
      dsimp only at q
      omega
    · exfalso
      rw [← hpr, hI2] at g2
      have q := Vg 1 1 1 (bs.drop (0 + h.H.toNat * QF h.K h.W.toNat (Qg h.M))) ⟨some h, 0, .no, ((0 + h.H.toNat * QF h.K h.W.toNat (Qg h.M) : Nat) : Int), 0 + 1, false, 0⟩
      have z : 0 ≤ Zk ((QL 1 1 1 ⟨some h, 0, .no, ((0 + h.H.toNat * QF h.K h.W.toNat (Qg h.M) : Nat) : Int), 0 + 1, false, 0⟩ (bs.drop (0 + h.H.toNat * QF h.K h.W.toNat (Qg h.M)))).2.map (·.1)) := by unfold Zk; omega
      simp only [Ye] at g2
      rw [g2] at q
      dsimp only at q
      omega
  | succ m ih =>
    intro y hm hI hy hb
    have hyH : (y : Int) < h.H := by omega
    have hy1 : (y + 1) * QF h.K h.W.toNat (Qg h.M) = y * QF h.K h.W.toNat (Qg h.M) + QF h.K h.W.toNat (Qg h.M) := by rw [Nat.add_mul, Nat.one_mul]
    have hbd : bs.drop 0 = bs := List.drop_zero
    by_cases hbb : Zj h.K h.W.toNat h.H.toNat h.M bs > 0 ∧ Zj h.K h.W.toNat h.H.toNat h.M bs ≤ (((y + 1) * QF h.K h.W.toNat (Qg h.M) : Nat) : Int)
    · have hBo := rw_bad' (fin := false) hf hI hyH (by rw [hbd]; exact hbb.1) (by rw [hbd]; exact hbb.2) (by rw [hbd]; exact fun q => hb ⟨hbb.1, q⟩)
      obtain ⟨s', e1, e2, _, e4⟩ := hBo.2 (by decide)
      simp only [psFin, if_neg (show ¬ false = true by decide)] at e1
      unfold rawF
      rw [if_pos hbb.1]
      have hpr : QL 1 1 1 ⟨some h, 2, .rw (rw0 h), 0, 0, false, 0⟩ bs = (s', rowsX h bs y) := e1
      rw [hpr] at hrun
      rcases hrun with ⟨_, g2, _⟩ | ⟨g, _⟩ | ⟨_, g, _⟩
      · simp only at g2; omega
      · exact g
      · simp only at g; rw [g, if_neg (by decide)] at e2; omega
    · by_cases hl : (y + 1) * QF h.K h.W.toNat (Qg h.M) ≤ bs.length
      · have hR := rw_row hf hI hyH (by rw [hbd]; exact hbb) (by omega)
        rw [← rowsX_succ] at hR
        exact ih (y + 1) (by omega) hR hl hbb
      · have hBo := rw_short (fin := false) hf hI hyH (by omega) (by rw [hbd]; exact hbb) (by omega)
        obtain ⟨s', e1, e2, _, e4⟩ := hBo.2 (by decide)
        simp only [psFin, if_neg (show ¬ false = true by decide)] at e1
        have hpr : QL 1 1 1 ⟨some h, 2, .rw (rw0 h), 0, 0, false, 0⟩ bs = (s', rowsX h bs y) := e1
        have hyl : (y + 1) * QF h.K h.W.toNat (Qg h.M) ≤ h.H.toNat * QF h.K h.W.toNat (Qg h.M) := Nat.mul_le_mul_right _ (by omega)
        have hmul : h.H.toNat * QF h.K h.W.toNat (Qg h.M) = QF h.K h.W.toNat (Qg h.M) * h.H.toNat := Nat.mul_comm _ _
        unfold rawF
        rw [if_neg (fun q => hbb ⟨q, by omega⟩), if_pos (by omega)]
        rw [hpr] at hrun
        rcases hrun with ⟨_, g2, _⟩ | ⟨_, g, _⟩ | ⟨g, _⟩
        · simp only at g2; omega
        · simp only at g
          rw [g] at e2
          simp at e2
        · exact g
/-- A raw raster read at once, whatever its row was before. -/
theorem readW_raw {h : HS} (hf : YC h) (bs b0 : List Int) (hb : b0.length = QF h.K h.W.toNat (Qg h.M)) (hp : 0 < b0.length) : Zo h.K h.W.toNat h.H h.M bs ⟨b0, 0, 0, 0, 0⟩ [] = rawF h.K h.W.toNat h.H.toNat h.M bs := by
  have hM := hf.2.2
  unfold Xv at hM
  rw [← readW_body hf bs h.H.toNat 0 (by omega) (rwI0 (by omega)) (by omega) (fun q => by have := q.2; simp at this; omega)]
  exact readW_ind bs b0 _ 0 0 0 [] (by rw [hb]; simp) hp (by simp)

end Go.Proofs.YtggamdlpiejbiaaGreat
namespace Go.Proofs.YtggamdlpiejbiaaGreat
open Go.RowKit Go.Shelf

theorem hWrite_spec (K W H M : Int) (hM : Xv K W H M) : Fn Tryz.prog 87 #[.agg #[.int .i64 K, .int .i64 W, .int .i64 H, .int .i64 M]] [] (fun v l => ∃ s, Xh s = hdW K W H M ∧ v = .tuple #[.string s, .int .i64 0] ∧ l = []) := by
 have hM2 := hM
 unfold Xv at hM2
 have hs1 := ZO (n := K) (by omega)
 have hs2 := ZO (n := W) (by omega)
 have hs3 := ZO (n := H) (by omega)
 have hs4 := ZO (n := M) (by omega)
 refine Qk (vs := [.agg #[.int .i64 K, .int .i64 W, .int .i64 H, .int .i64 M]]) Tryz.func87 rfl Tryz.ntmps87 rfl (Qb (Qa (Q9 rfl rfl rfl ?_)))
 intro gH
 refine Qe rfl rfl (Qe rfl rfl (WpL.nil (Qb (Qb (Qa ?_)))))
 refine QI (vs := [_, _, _, _]) rfl rfl rfl (by rfl) ?_
 refine Qh rfl rfl (by repeat' constructor) (May_spec _ _ _ _) ?_
 rintro _ _ ⟨rfl, rfl⟩
 simp only [Qr]
 refine XN rfl rfl (WpL.nil (Ql rfl (fun h0 => ?_) (fun h0 => ?_)))
 ·exfalso; exact absurd hM h0
 ·refine Wp.skip (Qb ?_)
  apply Q0 mixed [⟨8, _, []⟩, ⟨9, _, [0]⟩, ⟨10, _, [1]⟩, ⟨11, _, [2]⟩, ⟨12, _, [3]⟩, ⟨13, _, []⟩, ⟨14, _, [5]⟩, ⟨15, _, [6, 2]⟩, ⟨16, _, [4, 7]⟩, ⟨17, _, [8]⟩, ⟨18, _, []⟩, ⟨19, _, [10]⟩, ⟨20, _, [11, 7]⟩, ⟨21, _, [9, 12]⟩, ⟨22, _, [13]⟩, ⟨4, _, [14, 12, 0, 1, 2, 3, 4, 5, 6, 7, 8, 9, 10, 11, 13]⟩] rfl
  ·refine AllObs.mk ?_ ?_
   ·exact Qj (o2 := 0) rfl rfl rfl (Qm rfl)
   refine AllObs.mk ?_ ?_
   ·refine Qo rfl rfl (by rfl) ?_
    exact Qm rfl
   refine AllObs.mk ?_ ?_
   ·refine Qh rfl rfl (by repeat' constructor) (Zz _ (by omega) (by omega)) ?_
    rintro _ _ ⟨rfl, rfl⟩
    simp only [Qr]
    exact WpL.nil ⟨rfl, rfl, rfl, by exact Ent.refl _⟩
   refine AllObs.mk ?_ ?_
   ·refine Yo rfl rfl rfl (by simp only [lit1]; omega) ?_
    exact Qm rfl
   refine AllObs.mk ?_ ?_
   ·refine Yo rfl rfl rfl (by simp only [ByteArray.size_append, lit1]; omega) ?_
    exact Qm rfl
   refine AllObs.mk ?_ ?_
   ·exact Qj (o2 := 1) rfl rfl rfl (Qm rfl)
   refine AllObs.mk ?_ ?_
   ·refine Qo rfl rfl (by rfl) ?_
    exact Qm rfl
   refine AllObs.mk ?_ ?_
   ·refine Qh rfl rfl (by repeat' constructor) (Zz _ (by omega) (by omega)) ?_
    rintro _ _ ⟨rfl, rfl⟩
    simp only [Qr]
    exact WpL.nil ⟨rfl, rfl, rfl, by exact Ent.refl _⟩
   refine AllObs.mk ?_ ?_
   ·refine Yo rfl rfl rfl (by simp only [ByteArray.size_append, lit1]; omega) ?_
    exact Qm rfl
   refine AllObs.mk ?_ ?_
   ·refine Yo rfl rfl rfl (by simp only [ByteArray.size_append, lit1]; omega) ?_
    exact Qm rfl
   refine AllObs.mk ?_ ?_
   ·exact Qj (o2 := 2) rfl rfl rfl (Qm rfl)
   refine AllObs.mk ?_ ?_
   ·refine Qo rfl rfl (by rfl) ?_
    exact Qm rfl
   refine AllObs.mk ?_ ?_
   ·refine Qh rfl rfl (by repeat' constructor) (Zz _ (by omega) (by omega)) ?_
    rintro _ _ ⟨rfl, rfl⟩
    simp only [Qr]
    exact WpL.nil ⟨rfl, rfl, rfl, by exact Ent.refl _⟩
   refine AllObs.mk ?_ ?_
   ·refine Yo rfl rfl rfl (by simp only [ByteArray.size_append, lit1]; omega) ?_
    exact Qm rfl
   refine AllObs.mk ?_ ?_
   ·refine Yo rfl rfl rfl (by simp only [ByteArray.size_append, lit1]; omega) ?_
    exact Qm rfl
   refine AllObs.mk ?_ ?_
   ·exact Qe rfl rfl (Qm rfl)
   exact AllObs.nil
  ·refine Qb (Qb (Qa ?_))
   refine QI (vs := [_, _, _, _]) rfl rfl rfl (by rfl) ?_
   refine Qh rfl rfl (by repeat' constructor) (bits_spec _ _ _ _) ?_
   rintro _ _ ⟨rfl, rfl⟩
   simp only [Qr]
   refine XN rfl rfl (WpL.nil (Ql rfl (fun h1 => ?_) (fun h1 => ?_)))
   ·refine Qa (Qc rfl rfl (Qj (o2 := 3) rfl rfl rfl (Qo rfl rfl (by rfl) ?_)))
    refine Qh rfl rfl (by repeat' constructor) (Zz _ (by omega) (by omega)) ?_
    rintro _ _ ⟨rfl, rfl⟩
    simp only [Qr]
    refine Yo rfl rfl rfl (by simp only [lit1]; omega) ?_
    refine Yo rfl rfl rfl (by simp only [ByteArray.size_append, lit1]; omega) ?_
    refine Qe rfl rfl (WpL.nil (Qb (Qa (Qc rfl rfl (Qe rfl rfl (Qe rfl rfl (WpL.nil (Qi ?_))))))))
    apply RetQ.mk
    ·exact (QB rfl rfl rfl)
    ·exact ⟨_, by simp only [X0, ZE]; rw [hdW, if_neg (by assumption)]; simp [Xh], rfl, rfl⟩
    ·exact Ent.nil _
   ·refine Wp.skip (Qb (Qa (Qc rfl rfl (Qe rfl rfl (Qe rfl rfl (WpL.nil (Qi ?_)))))))
    apply RetQ.mk
    ·exact (QB rfl rfl rfl)
    ·exact ⟨_, by simp only [X0, ZE]; rw [hdW, if_pos (Classical.not_not.1 (by assumption))]; simp [Xh], rfl, rfl⟩
    ·exact Ent.nil _


theorem ZB (l0 l1 l2 : Int) {h : HS} {c n : Int} {bs : List Int} (h0 : (Q1 l0 l1 l2 h c).last = 0) : Xl l0 l1 l2 h (c :: bs) n = Xl l0 l1 l2 (Q1 l0 l1 l2 h c) bs (n + 1) := by rw [Xl, if_neg (by omega)]
theorem hdRun_fin (l0 l1 l2 : Int) {h : HS} {c n : Int} {bs : List Int} (h0 : (Q1 l0 l1 l2 h c).last ≠ 0) : Xl l0 l1 l2 h (c :: bs) n = (Q1 l0 l1 l2 h c, n + 1) := by rw [Xl, if_pos h0]
end Go.Proofs.YtggamdlpiejbiaaGreat
namespace Go.Proofs.YtggamdlpiejbiaaGreat
open Go.RowKit Go.Shelf
/-- The row of a text that became bytes. -/
def cvR (e g c : Nat) (xs : List Value) : HP where
  p w S := (∀ b, S b ↔ b = g) ∧ ∃ cur : Array Value, w.heap[g]? = some (.cells cur e (cur.size, cur.size + 1)) ∧ cur.size = c ∧ xs.length ≤ c ∧ cur.toList.take xs.length = xs
  loc := fun ⟨hs, cur, h, r⟩ _ hb => ⟨hs, cur, (hb g ((hs g).2 rfl)).trans h, r⟩
  lt := fun ⟨hs, cur, h, _⟩ b hb => by rw [(hs b).1 hb]; exact (Array.getElem?_eq_some_iff.1 h).1
theorem setCells_chg (b : Nat) : ∀ (vs : List Value) (o : Nat) (w : World), (w.setCells b o vs).os = w.os ∧ (w.setCells b o vs).tape = w.tape ∧ (w.setCells b o vs).output = w.output ∧ (w.setCells b o vs).heap.size = w.heap.size ∧ ∀ k, k ≠ b → (w.setCells b o vs).heap[k]? = w.heap[k]?
  | [], _, _ => ⟨rfl, rfl, rfl, rfl, fun _ _ => rfl⟩
  | v :: r, o, w => by
    obtain ⟨h1, h2, h3, h4, h5⟩ := setCells_chg b r (o + 1) (w.setCell ⟨b, o, none⟩ v)
    have e : ∀ k, k ≠ b → (w.setCell ⟨b, o, none⟩ v).heap[k]? = w.heap[k]? := fun k hk => by
      simp [World.setCell, Array.getElem?_modify, Ne.symm hk]
    refine ⟨h1.trans ?_, h2.trans ?_, h3.trans ?_, h4.trans ?_, fun k hk => (h5 k hk).trans (e k hk)⟩
    all_goals simp [World.setCell]
section
variable {P : Program} {n : Cx} {D : List Deferred} {ops : Array Oper} {rest : List Oper} {Q : Post} {fr : Fr} {l : List HP} {ty : Nat} {pos : String} {aft : Array Edge}
theorem out_bytesC {w : World} {U : Nat → Prop} (h : Sat w l U) (e : Nat) (s : ByteArray) : Out (cvR e w.heap.size (Lib.bytesCells w e s).size (Xr (Xh s)) :: l) U w (Lib.bytesWorld w e s) := by
  have hb := bytes_below w e s
  have h2 : Sat (Lib.bytesWorld w e s) l (fun b => U b ∧ b < w.heap.size) := h.inside.keep hb.size fun b _ hlt => hb.block b hlt
  refine ⟨⟨fun b => b = w.heap.size, ⟨fun _ => Iff.rfl, _, Lib.bytesWorld_at_new w e s, rfl, ?_, ?_⟩, fun b hb => .inr (Nat.le_of_eq hb.symm), h2.mono fun b hb => ⟨.inl hb.1, fun e => ?_⟩⟩, .of_below hb⟩
  · rw [Xa, XS]; simp [Lib.bytesCells]
  · rw [Xa, XS]
    apply List.ext_getElem?
    intro j
    by_cases hj : j < s.size
    · rw [List.getElem?_take, if_pos hj, Zn _ (by rw [XS]; exact hj), bsOf_at hj]
      simp only [Lib.bytesCells, Array.toList_append, Array.toList_map]
      rw [List.getElem?_append_left (by simpa using hj), List.getElem?_map]
      have e1 : s.data.toList[j]? = some s[j] := by rw [List.getElem?_eq_getElem (by simpa using hj)]; rfl
      rw [e1]; rfl
    · rw [List.getElem?_take, if_neg hj, List.getElem?_eq_none (by rw [Xa, XS]; omega)]
  · rw [e] at hb; exact absurd hb.2 (Nat.lt_irrefl _)
theorem s_t2bc {d T1 T2 e : Nat} {x : Operand} {s : ByteArray} (hd : Nat.blt d n = true) (h1 : P.underlying T1 = some .string) (h2 : P.underlying T2 = some (.slice e)) (h3 : P.underlying e = some (.int .u8)) (hx : ev fr x = some (.string s))
    (k : ∀ g c, WpL P n D ops rest Q ((d, .slice (some ⟨g, 0, none⟩) (Xh s).length c) :: fr) (cvR e g c (Xr (Xh s)) :: l)) : WpL P n D ops (⟨some d, .convert T1 T2 x, ty, pos, aft, none⟩ :: rest) Q fr l :=
  XR hd (σ := Nat × Nat) (fun q => .slice (some ⟨q.1, 0, none⟩) (Xh s).length q.2) (fun q => cvR e q.1 q.2 (Xr (Xh s)) :: l) (fun a w U hh hs => ⟨(w.heap.size, (Lib.bytesCells w e s).size), _, by
    have hg : (Lib.bytesCells w e s).size = grownCap w s.size 0 e := by simp [Lib.bytesCells]; have := grownCap_ge w s.size 0 e; omega
    rw [XS, hg]; simp [execOp, hh.ev hx, Lib.run_convert_string_bytes w T1 T2 e s h1 h2 h3], out_bytesC hs e s⟩) fun q => k q.1 q.2
theorem cvR_cells {w : World} {S : Nat → Prop} {e g c : Nat} {xs : List Value} (h : (cvR e g c xs).p w S) (j : Nat) (u : Value) (hu : xs[j]? = some u) : w.cell? ⟨g, j, none⟩ = some u := by
  obtain ⟨_, cur, hg, _, hl, ht⟩ := h
  rw [cell_of_row w g j cur e _ hg]
  rw [← ht, List.getElem?_take] at hu
  split at hu
  · simpa using hu
  · cases hu
theorem RdsL.cvR {e g c : Nat} {xs : List Value} : RdsL [Go.Proofs.YtggamdlpiejbiaaGreat.cvR e g c xs] (some ⟨g, 0, none⟩) xs := by
  intro w U ⟨S, hp, _⟩
  refine ⟨fun _ => rfl, fun ad had j u hu => ?_⟩
  injection had with had
  subst had
  rw [ZY, Nat.zero_add]
  exact cvR_cells hp j u hu
end
end Go.Proofs.YtggamdlpiejbiaaGreat
