/- Walks and plain laws, a part of the proof of PnmReads: every input that the law's guards let in, no condition beside. -/
import Derived.Test.YtggamdlpiejbiaaGreatM27
namespace Go.Proofs.YtggamdlpiejbiaaGreat
open Go.RowKit Go.Shelf

instance : AeqT Tryz.prog 48 2 := ⟨by kernel_rfl, by kernel_rfl, by kernel_rfl, by kernel_rfl, by kernel_rfl⟩

theorem Ent.empties {α : Type} {T : Nat} {row : α → List Int} {l F : List HP} (hE : Ent l F) : ∀ (L : List (α × Option Addr × Nat)), (∀ r ∈ L, r.2 = (none, 0) ∧ row r.1 = []) → Ent l ((L.map fun r => own T 1 r.2.1 r.2.2 (row r.1).length (Xx (row r.1))) ++ F)
  | [], _ => hE
  | (x, a, c) :: L, h => by
    obtain ⟨h1, h2⟩ := h (x, a, c) (List.mem_cons_self ..)
    simp only [Prod.mk.injEq] at h1
    obtain ⟨rfl, rfl⟩ := h1
    dsimp only at h2
    rw [List.map_cons, List.cons_append, h2]
    exact Ent.own_nil (Ent.empties hE L fun r hr => h r (List.mem_cons_of_mem _ hr))
theorem opnE {α : Type} {f : α → List HP} {F l : List HP} (h : ∀ x, Ent (f x ++ F) l) : Ent (exs f :: F) l := fun w U hs => let ⟨x, hx⟩ := exs_sat hs; h x w U hx
theorem opnP {p : Prop} {F l : List HP} (h : p → Ent F l) : Ent (pur p :: F) l := fun w U hs => h hs.pur w U hs.tail
def Zl (x : Evt) (a : Option Addr) (c : Nat) : List Value := [.int .i64 x.k, .int .i64 x.c, .int .i64 x.m, .int .i64 x.w, .int .i64 x.h, .slice a x.row.length c]
/-- Events, each with a row of its own. -/
def evR (a : Option Addr) (c : Nat) (evs : List Evt) : HP := rcR 51 6 92 Zl Evt.row a c evs
theorem evO_rc {v : Value} {evs : List Evt} {F : List HP} (h : EvOk evs) : Ent (evO v evs :: F) (exs (fun p : Option Addr × Nat => [pur (v = .slice p.1 evs.length p.2), evR p.1 p.2 evs]) :: F) := by
  refine opnE fun ⟨a, c, a3, c3⟩ => ?_
  refine opnP fun hv => ?_
  refine Ent.exs (a, c) (Ent.pur hv ?_)
  cases evs with
  | nil =>
    refine Ent.exs [] (Ent.pur rfl ?_)
    simp only [List.flatMap_nil, List.length_nil, List.map_nil]
    exact Ent.cons (Ent.many (Ent.drop (Ent.refl _)))
  | cons x t =>
    have ht : ∀ y ∈ t, y.row = [] := h
    have e1 : ∀ q : Option Addr × Nat, (t.flatMap (evC a3 c3)) = (t.map fun y => (y, ((none : Option Addr), (0 : Nat)))).flatMap fun r => Zl r.1 r.2.1 r.2.2 := fun _ => by
      clear h hv
      induction t with
      | nil => rfl
      | cons y t ih =>
        rw [List.flatMap_cons, List.map_cons, List.flatMap_cons, ih fun z hz => ht z (List.mem_cons_of_mem _ hz)]
        congr 1
        unfold evC Zl
        rw [ht y (List.mem_cons_self ..)]
        rfl
    have e2 : ∀ r ∈ (t.map fun y => (y, ((none : Option Addr), (0 : Nat)))), r.2 = (none, 0) ∧ r.1.row = [] := by
      intro r hr
      obtain ⟨y, hy, rfl⟩ := List.mem_map.1 hr
      exact ⟨rfl, ht y hy⟩
    have e3 : (t.map fun y => (y, ((none : Option Addr), (0 : Nat)))).map (·.1) = t := by rw [List.map_map]; exact (List.map_congr_left fun _ _ => rfl).trans (List.map_id t)
    by_cases hx : x.row = []
    · refine Ent.exs ((x, none, 0) :: t.map fun y => (y, none, 0)) (Ent.pur (by rw [List.map_cons, e3]) ?_)
      rw [List.flatMap_cons, List.flatMap_cons, e1 (none, 0)]
      have e0 : evC a3 c3 x = Zl x none 0 := by unfold evC Zl; rw [if_pos hx, hx]; rfl
      rw [e0]
      refine Ent.cons (Ent.many ?_)
      rw [List.map_cons]
      simp only [List.cons_append, hx]
      exact Ent.own_nil (Ent.empties (Ent.drop (Ent.refl _)) _ e2)
    · refine Ent.exs ((x, a3, c3) :: t.map fun y => (y, none, 0)) (Ent.pur (by rw [List.map_cons, e3]) ?_)
      rw [List.flatMap_cons, List.flatMap_cons, e1 (none, 0)]
      have e0 : evC a3 c3 x = Zl x a3 c3 := by unfold evC Zl; rw [if_neg hx]
      rw [e0]
      refine Ent.cons (Ent.many ?_)
      rw [List.map_cons]
      simp only [List.cons_append]
      exact Ent.cons (Ent.empties (Ent.refl _) _ e2)

theorem SameRowW_spec (As : List HP) (a b : Option Addr) (ca cb : Nat) (xs ys : List Int) (hx : RdsL As a (Xx xs)) (hy : RdsL As b (Xx ys)) (hl : xs.length ≤ 9223372036854775807) : Fn Tryz.prog 65 #[.slice a xs.length ca, .slice b ys.length cb] As (fun v l => v = .bool (decide (xs = ys)) ∧ l = As) := by
 refine Qo (vs := [.slice a xs.length ca, .slice b ys.length cb]) Tryz.func65 rfl Tryz.ntmps65 rfl (Qb (Qa (Qd rfl rfl (WpL.nil (Qb (Qb (Qa (Qc rfl rfl (QK rfl rfl (Qc rfl rfl (QK rfl rfl (Xp rfl rfl rfl ?_))))))))))))
 refine WpL.nil (Qh rfl (fun h0 => ?_) (fun h0 => ?_))
 ·refine Qb (Qa (Qd rfl rfl (WpL.nil (Qg ?_))))
  apply RetQ.mk
  ·exact (Res.one rfl rfl)
  ·exact ⟨congrArg Value.bool (df fun e => h0 (by rw [e])), rfl⟩
  ·exact Ent.refl _
 ·have hlen : xs.length = ys.length := by omega
  refine Wp.skip (Qb (Qb (Qa (Qd rfl rfl (WpL.nil (Wp.block ?_))))))
  refine Wp.loopD (σ := Nat) (fun k => k ≤ xs.length ∧ xs.take k = ys.take k) [4, 5, 11, 12, 13, 14, 15, 16, 17, 18, 19, 20, 21, 22, 23, 24, 25] (fun k => [(5, .int .i64 (k : Int))]) (fun _ => _) (fun k => xs.length - k) 0 ?_ (by repeat (first | exact FrLe.nil | refine FrLe.cons rfl ?_)) (Ent.refl _) ?_
  ·exact ⟨Nat.zero_le _, rfl⟩
  ·rintro k ⟨hk, htk⟩
   refine Qb (Qb (Qa (Qc rfl rfl (Qc rfl rfl (QK rfl rfl (Xa rfl rfl rfl (WpL.nil (Qh rfl (fun h2 => ?_) (fun h2 => ?_)))))))))
   ·have hkx : k < xs.length := by omega
    have hky : k < ys.length := by omega
    refine Wp.skip (Qb (Wp.block ?_))
    refine Qb ?_
    apply QZ mixed [⟨17, _, []⟩, ⟨18, _, []⟩, ⟨19, _, [0, 1]⟩, ⟨20, _, [2]⟩, ⟨21, _, []⟩, ⟨22, _, []⟩, ⟨23, _, [4, 5]⟩, ⟨24, _, [6]⟩, ⟨25, _, [3, 7]⟩] rfl
    ·refine AllObs.mk ?_ ?_
     ·exact Qc rfl rfl (Ql rfl)
     refine AllObs.mk ?_ ?_
     ·exact Qc rfl rfl (Ql rfl)
     refine AllObs.mk ?_ ?_
     ·refine Xj k rfl rfl rfl hx (Ent.refl _) rfl (by omega) (by rw [Zh]; exact hkx) ?_
      exact Ql rfl
     refine AllObs.mk ?_ ?_
     ·refine Xo rfl rfl hx (Ent.refl _) (pxs_at xs hkx) ?_
      exact Ql rfl
     refine AllObs.mk ?_ ?_
     ·exact Qc rfl rfl (Ql rfl)
     refine AllObs.mk ?_ ?_
     ·exact Qc rfl rfl (Ql rfl)
     refine AllObs.mk ?_ ?_
     ·refine Xj k rfl rfl rfl hy (Ent.refl _) rfl hky (by rw [Zh]; exact hky) ?_
      exact Ql rfl
     refine AllObs.mk ?_ ?_
     ·refine Xo rfl rfl hy (Ent.refl _) (pxs_at ys hky) ?_
      exact Ql rfl
     refine AllObs.mk ?_ ?_
     ·exact Xp rfl rfl rfl (Ql rfl)
     exact AllObs.nil
    ·refine Qh rfl (fun h3 => ?_) (fun h3 => ?_)
     ·refine Qb (Qa (Qd rfl rfl (WpL.nil (Qg ?_))))
      apply RetQ.mk
      ·exact (Res.one rfl rfl)
      ·exact ⟨congrArg Value.bool (df fun e => h3 (by subst e; rfl)), rfl⟩
      ·exact Ent.refl _
     ·refine Wp.skip (Qa (Qc rfl rfl (Qx rfl rfl rfl (Qp (by omega) (by omega)) ?_)))
      refine Qd rfl rfl (WpL.nil (Qq (k + 1) ?_ ?_ (by ((repeat (first | exact Top.refl | refine Top.push rfl ?_)); done)) (by repeat (first | exact FrLe.nil | refine FrLe.cons rfl ?_)) ?_))
      ·refine ⟨by omega, ?_⟩
       rw [List.take_succ_eq_append_getElem hkx, List.take_succ_eq_append_getElem hky, htk, Classical.not_not.1 h3]
      ·omega
      ·exact Ent.refl _
   ·obtain rfl : k = xs.length := by omega
    have hxy : xs = ys := by rw [List.take_length, hlen, List.take_length] at htk; exact htk
    refine QT (Qb (Qa (Qd rfl rfl (WpL.nil (Qg ?_)))))
    apply RetQ.mk
    ·exact (Res.one rfl rfl)
    ·exact ⟨congrArg Value.bool (dt hxy), rfl⟩
    ·exact Ent.refl _

theorem like_spec (As : List HP) (a : Option Addr) (c : Nat) (y : Evt × Int) (b : Option Addr) (c2 : Nat) (hx : RdsL As a (Xx y.1.row)) (hy : RdsL As b (Xx y.1.row)) (hl : y.1.row.length ≤ 9223372036854775807) : Fn Tryz.prog 23 #[.agg (Zl y.1 a c).toArray, .agg (Zo y b c2).toArray] As (fun v l => v = .bool true ∧ l = As) := by
 refine Qo (vs := [.agg (Zl y.1 a c).toArray, .agg (Zo y b c2).toArray]) Tryz.func23 rfl Tryz.ntmps23 rfl (Qb (Qa (Xc rfl rfl rfl ?_)))
 intro g1
 refine Xc rfl rfl rfl ?_
 intro g2
 refine Qd rfl rfl (WpL.nil (Qb (Qa (Qi (o2 := 0) rfl rfl rfl (Qn rfl rfl (by rfl) ?_)))))
 refine Qi (o2 := 0) rfl rfl rfl (Qn rfl rfl (by rfl) ?_)
 refine QI rfl rfl rfl (Qc rfl rfl (QD (dj := 10) rfl (decide_eq_true rfl) ?_))
 refine Qf rfl rfl (Qi (o2 := 1) rfl rfl rfl (Qf rfl rfl ?_))
 refine QC (vs := [_, _]) rfl rfl rfl (by rfl) ?_
 refine Qf rfl rfl (Qi (o2 := 1) rfl rfl rfl (Qf rfl rfl ?_))
 refine QC (vs := [_, _]) rfl rfl rfl (by rfl) ?_
 refine Qf rfl rfl (s_aeq [y.1.c, y.1.m] [y.1.c, y.1.m] rfl rfl rfl rfl rfl (Qr rfl rfl rfl (Qc rfl rfl (QD (dj := 17) rfl (decide_eq_true rfl) ?_))))
 refine Qf rfl rfl (Qi (o2 := 3) rfl rfl rfl (Qf rfl rfl (Qn rfl rfl (by rfl) ?_)))
 refine Qf rfl rfl (Qi (o2 := 3) rfl rfl rfl (Qf rfl rfl (Qn rfl rfl (by rfl) ?_)))
 refine Qf rfl rfl (QI rfl rfl rfl (Qr rfl rfl rfl (Qc rfl rfl (QD (dj := 24) rfl (decide_eq_true rfl) ?_))))
 refine Qf rfl rfl (Qi (o2 := 4) rfl rfl rfl (Qf rfl rfl (Qn rfl rfl (by rfl) ?_)))
 refine Qf rfl rfl (Qi (o2 := 4) rfl rfl rfl (Qf rfl rfl (Qn rfl rfl (by rfl) ?_)))
 refine Qf rfl rfl (QI rfl rfl rfl (Qr rfl rfl rfl (Qc rfl rfl (QD (dj := 31) rfl (decide_eq_true rfl) ?_))))
 refine Qf rfl rfl (Qi (o2 := 5) rfl rfl rfl (Qf rfl rfl (Qn rfl rfl (by rfl) ?_)))
 refine Qf rfl rfl (Qi (o2 := 5) rfl rfl rfl (Qf rfl rfl (Qn rfl rfl (by rfl) ?_)))
 refine Qf rfl rfl (Qj rfl rfl (Take.skip (Take.skip Take.all)) (SameRowW_spec As a b c c2 y.1.row y.1.row hx hy hl) ?_)
 rintro _ _ ⟨rfl, rfl⟩
 refine Qr rfl rfl rfl (Qd rfl rfl (WpL.nil (Qg ?_)))
 apply RetQ.mk
 ·exact (Res.one rfl rfl)
 ·exact ⟨congrArg Value.bool (decide_eq_true rfl), rfl⟩
 ·exact (Take.app rfl).ent'

end Go.Proofs.YtggamdlpiejbiaaGreat
namespace Go.Proofs.YtggamdlpiejbiaaGreat
open Go.RowKit Go.Shelf


theorem txs_take {B : HP} {a : Option Addr} {c : Nat} {bs : List Int} (h : RdsL [B] a (XI bs)) (hb : ∀ x ∈ bs, 0 ≤ x ∧ x ≤ 255) (hc : bs.length ≤ c) (n : Nat) (hn : n ≤ 10000000) : TxOk B ⟨a, c, bs.take n⟩ := by
  refine ⟨?_, fun x hx => hb x (List.mem_of_mem_take hx), ?_, ?_⟩
  · have q := h.take n
    rwa [show (XI bs).take n = XI (bs.take n) by simp [XI, List.map_take]] at q
  · simp only [List.length_take]; omega
  · simp only [List.length_take]; omega
theorem lstream2_spec (A0 : HP) (a0 : Option Addr) (c0 : Nat) (bs : List Int) (hA0 : RdsL [A0] a0 (XI bs)) (hb0 : ∀ x ∈ bs, 0 ≤ x ∧ x ≤ 255) (hc0 : bs.length ≤ c0) (hbl : bs.length ≤ 9223372036854775807) (ga : Option Addr) (gc : Nat) (gs : List GS) (hgl : gs.length ≤ 9223372036854775807) (hG : RdsL [A0] ga (gs.flatMap gC)) (hgs : GsOk A0 gs) (ya : Option Addr) (yc : Nat) (ys : List Int) (hy : RdsL [A0] ya (Q3 ys)) (hyl : ys.length ≤ 9223372036854775807) (p cc q : Int) (hp : -9223372036854775808 ≤ p ∧ p < 9223372036854775808) (hcc : 0 ≤ cc ∧ cc ≤ 255) (hq : -9223372036854775808 ≤ q ∧ q < 9223372036854775808) :
    Fn Tryz.prog 14 #[.slice a0 bs.length c0, .slice ga gs.length gc, .slice ya ys.length yc, .int .i64 p, .int .u8 cc, .int .i64 q] [A0] (fun v l => ∃ (ts : List TxL) (gT : Nat) (B : HP), ts.length = 4 ∧ (∀ t ∈ ts, TxOk B t) ∧ Ent [B] [A0] ∧ v = .slice (some ⟨gT, 0, none⟩) 4 4 ∧ l = [QE gT (ts.map txV) 22, B]) := by
  refine Fn.mono (lstream_spec A0 a0 c0 bs hc0 hbl ga gc gs hgl hG hgs ya yc ys hy hyl p cc q hp hcc hq) ?_
  rintro v l ⟨own1, tn, gT, ao, co, at1, ct, N, ⟨h1, h2, h3, h4⟩, hN, hco, hct, rfl, rfl⟩
  have hm0 : Ent [Ym [own 5 1 ao co own1.length (XI own1), own 5 1 at1 ct own1.length (XI tn), A0]] [A0] := Z4 (by simp)
  have hm1 : RdsL [Ym [own 5 1 ao co own1.length (XI own1), own 5 1 at1 ct own1.length (XI tn), A0]] ao (XI own1) := Q4.ent (Z4 (A := own 5 1 ao co own1.length (XI own1)) (by simp))
  have hm2 : RdsL [Ym [own 5 1 ao co own1.length (XI own1), own 5 1 at1 ct own1.length (XI tn), A0]] at1 (XI tn) := Q4.ent (Z4 (A := own 5 1 at1 ct own1.length (XI tn)) (by simp))
  refine ⟨_, ⟨[⟨a0, c0, bs.take 120⟩, ⟨ao, co, own1⟩, ⟨at1, ct, tn⟩, ⟨ao, co, own1.take N⟩], gT, Ym [own 5 1 ao co own1.length (XI own1), own 5 1 at1 ct own1.length (XI tn), A0], rfl, ?_, hm0, rfl, rfl⟩, ?_⟩
  · intro t ht
    simp only [List.mem_cons, List.not_mem_nil, or_false] at ht
    rcases ht with rfl | rfl | rfl | rfl
    · exact txs_take (hA0.ent hm0) hb0 hc0 120 (by omega)
    · exact ⟨hm1, h2, hco, by simp only; omega⟩
    · exact ⟨hm2, h4, by simp only; omega, by simp only; omega⟩
    · exact txs_take hm1 h2 hco N (by omega)
  · simp only [List.map_cons, List.map_nil, txV]
    rw [show (bs.take 120).length = min bs.length 120 by rw [List.length_take, Nat.min_comm], h3, show (own1.take N).length = N by rw [List.length_take]; omega]
    exact Ent.cons (Ent.many (by rw [List.append_nil]; exact Ent.refl _))

end Go.Proofs.YtggamdlpiejbiaaGreat
namespace Go.Proofs.YtggamdlpiejbiaaGreat
open Go.RowKit Go.Shelf

theorem ZN {g T : Nat} {ts : List TxL} : RdsL [QE g (ts.map txV) T] (some ⟨g, 0, none⟩) (ts.map txV) := RdsL.blk (by rw [List.drop_zero, List.take_length])
theorem txv_at (ts : List TxL) {i : Nat} (h : i < ts.length) : (ts.map txV)[i]? = some (.slice ts[i].a ts[i].bs.length ts[i].c) := by rw [List.getElem?_map, List.getElem?_eq_getElem h]; rfl

end Go.Proofs.YtggamdlpiejbiaaGreat
namespace Go.Proofs.YtggamdlpiejbiaaGreat
open Go.RowKit Go.Shelf

instance : FOffA Tryz.prog 53 5 6 := ⟨fun _ _ => by kernel_rfl⟩
theorem img_cnt (es : List (Evt × Int)) : Ze (es.map (·.1)) = ((XU es).length : Int) := (imgsOf_len _).symm

set_option maxRecDepth 4000 in
set_option maxHeartbeats 4000000 in
theorem lReads_spec (A0 : HP) (a0 : Option Addr) (c0 : Nat) (bs : List Int) (hA0 : RdsL [A0] a0 (XI bs)) (hb0 : ∀ x ∈ bs, 0 ≤ x ∧ x ≤ 255) (hc0 : bs.length ≤ c0) (hbl : bs.length ≤ 9223372036854775807) (ga : Option Addr) (gc : Nat) (gs : List GS) (hgl : gs.length ≤ 9223372036854775807) (hG : RdsL [A0] ga (gs.flatMap gC)) (hgs : GsOk A0 gs) (ya : Option Addr) (yc : Nat) (ys : List Int) (hy : RdsL [A0] ya (Q3 ys)) (hyl : ys.length ≤ 9223372036854775807) (p cc q : Int) (hp : -9223372036854775808 ≤ p ∧ p < 9223372036854775808) (hcc : 0 ≤ cc ∧ cc ≤ 255) (hq : -9223372036854775808 ≤ q ∧ q < 9223372036854775808) (a b d : Int) : Fn Tryz.prog 4 #[.slice a0 bs.length c0, .agg #[.int .i64 a, .int .i64 b, .int .i64 d], .slice ga gs.length gc, .slice ya ys.length yc, .int .i64 p, .int .u8 cc, .int .i64 q] [A0] (fun v l => v = .bool true ∧ l = [A0]) := by
 refine Qo (vs := [.slice a0 bs.length c0, .agg #[.int .i64 a, .int .i64 b, .int .i64 d], .slice ga gs.length gc, .slice ya ys.length yc, .int .i64 p, .int .u8 cc, .int .i64 q]) Tryz.func4 rfl Tryz.ntmps4 rfl (Qb (Qa (Xc rfl rfl rfl ?_)))
 intro gL
 refine Qd rfl rfl (WpL.nil (Qb (Qa (Qc rfl rfl (Qc rfl rfl (Qc rfl rfl (Qc rfl rfl (Qc rfl rfl (Qc rfl rfl (Qj rfl rfl (by repeat' constructor) (lstream2_spec A0 a0 c0 bs hA0 hb0 hc0 hbl ga gc gs hgl hG hgs ya yc ys hy hyl p cc q hp hcc hq) ?_))))))))))
 rintro _ _ ⟨ts, gT, B, hts4, htok, hBA, rfl, rfl⟩
 simp only [Qw]
 refine Qd rfl rfl (WpL.nil (Qb (Qb (Qa (Qd rfl rfl (WpL.nil (Wp.block ?_)))))))
 refine Wp.loopD (σ := Nat) (fun i => i ≤ 4) [14, 16, 17, 18, 19, 20, 21, 22, 23, 24, 25, 33, 34, 35, 36, 37, 38, 39, 40, 41, 42, 43, 44, 45, 46, 47, 48, 49, 50, 51, 52, 53, 54, 55, 56, 57, 58, 59, 60, 61, 62, 63, 64, 65, 66, 67, 68, 69, 70, 71, 72, 73, 74, 75, 76, 77, 78, 79, 80, 81, 82, 83, 84, 85, 86, 87, 88, 89, 90, 91, 92, 93, 94, 95, 96, 97, 98, 99, 100, 101, 102, 103, 104, 105, 106, 107, 108, 109, 110, 111, 112, 113, 114, 115, 116, 117, 118, 119, 120, 121, 122, 123, 124, 125, 126, 127, 128, 129, 130, 131, 132, 133, 134, 135, 136, 137, 138, 139, 140, 141, 142, 143, 144, 145, 146, 147, 148, 149, 150, 151, 152, 153, 154, 155, 156, 157, 158, 159, 160, 161, 162, 163] (fun i => [(16, .int .i64 (i : Int))]) (fun i => [QE gT (ts.map txV) 22, B, QE gL [.int .i64 a, .int .i64 b, .int .i64 d] 24]) (fun i => 4 - i) 0 ?_ (by repeat (first | exact FrLe.nil | refine FrLe.cons rfl ?_)) ?_ ?_
 ·exact Nat.zero_le _
 ·exact Ent.refl _
 ·rintro i hi
  refine Qb (Qb (Qa (Qc rfl rfl (Qc rfl rfl (QK rfl rfl (Xa rfl rfl rfl (WpL.nil (Qh rfl (fun h1 => ?_) (fun h1 => ?_)))))))))
  ·have hit : i < ts.length := by omega
   obtain ⟨htA, htb, htc, htl⟩ := htok _ (List.getElem_mem hit)
   refine Wp.skip (Qb (Wp.block ?_))
   refine Qb (Qa (Qj rfl rfl (by repeat' constructor) (hdAll_spec) ?_))
   rintro _ _ ⟨rfl, rfl⟩
   simp only [Qw]
   obtain ⟨a', b', d', hl1, hl2⟩ := lim_ex ((i : Int) = 0) a b d 4096 65536 65535
   refine X3 rfl ?_
   intro gB
   refine QG rfl rfl rfl (by rfl) rfl ?_
   refine WpL.nil ?_
   refine Wp.cutL (True) [40, 41, 42] [QE gB [.int .i64 a', .int .i64 b', .int .i64 d'] 24, QE gT (ts.map txV) 22, B, QE gL [.int .i64 a, .int .i64 b, .int .i64 d] 24] ?_ (fun hc2 => ?_)
   ·refine Qb (Qa (Qc rfl rfl (QI rfl rfl rfl (WpL.nil (Qh rfl (fun h2 => ?_) (fun h2 => ?_))))))
    ·obtain ⟨rfl, rfl, rfl⟩ := hl1 h2
     refine Qa ?_
     refine QC (vs := [_, _, _]) rfl rfl rfl (by rfl) ?_
     refine QG rfl rfl rfl (by rfl) rfl ?_
     refine WpL.nil ?_
     refine ZH ?_ (by ((repeat (first | exact Top.refl | refine Top.push rfl ?_)); done)) (by exact Ent.refl _)
     trivial
    ·obtain ⟨rfl, rfl, rfl⟩ := hl2 h2
     refine Wp.skip ?_
     refine ZH ?_ (by ((repeat (first | exact Top.refl | refine Top.push rfl ?_)); done)) (by exact Ent.refl _)
     trivial
   ·refine Qb ?_
    apply Yp (fB := []) mixed 6 [(5, false), (0, true)] rfl rfl (by kernel_rfl)
    apply Q8 [⟨0, 43, _, [], false⟩, ⟨1, 44, _, [], false⟩, ⟨2, 45, _, [0, 1], false⟩, ⟨3, 46, _, [2], false⟩, ⟨4, 47, _, [], false⟩] [] [0, 1, 2, 3, 4] [18] (.inr rfl) rfl rfl rfl (by kernel_rfl) rfl rfl rfl
    ·refine AllF.cons rfl rfl rfl rfl ?_ ?_
     ·exact Qc rfl rfl (Ql rfl)
     refine AllF.cons rfl rfl rfl rfl ?_ ?_
     ·exact Qc rfl rfl (Ql rfl)
     refine AllF.cons rfl rfl rfl rfl ?_ ?_
     ·refine Xj i rfl rfl rfl (ZN (ts := ts)) (by exact Take.ent' (by repeat' constructor)) (by omega) (by omega) (by rw [List.length_map]; exact hit) ?_
      exact Ql rfl
     refine AllF.cons rfl rfl rfl rfl ?_ ?_
     ·refine Xo rfl rfl (ZN (ts := ts)) (by exact Take.ent' (by repeat' constructor)) (txv_at ts hit) ?_
      exact Ql rfl
     refine AllF.cons rfl rfl rfl rfl ?_ ?_
     ·refine QC (vs := [_, _, _]) rfl rfl rfl (by rfl) ?_
      exact Ql rfl
     exact AllF.nil
    ·refine Qj rfl rfl (by repeat' constructor) (rStream_spec B ts[i].a ts[i].c ts[i].bs htA htb htc htl a' b' d' true) ?_
     rintro _ _ ⟨aL, cL, aI, cI, s1, es, A1, hall, hA1, rfl, hel, rfl⟩
     simp only [Qw]
     refine WpL.nil ⟨rfl, rfl, ?_⟩
     apply YP [] [] [] [] (.inr rfl) rfl rfl rfl (by kernel_rfl) rfl rfl rfl rfl
     ·exact AllF.nil
     ·intro gS
      refine QG rfl rfl rfl (by rfl) rfl ?_
      refine WpL.nil ⟨rfl, rfl, ?_⟩
      apply GoR.nil [] (.inr rfl) rfl rfl
      ·exact AllF.nil
      ·refine Qb (Qa ?_)
       refine QC (vs := [_, _, _]) rfl rfl rfl (by rfl) ?_
       refine Qj rfl rfl (by repeat' constructor) (pnNew_spec a' b' d') ?_
       rintro _ _ ⟨gP, rfl, rfl⟩
       simp only [Qw]
       refine Qd rfl rfl (WpL.nil (Qb (Qb (Qa (Qc rfl rfl (s_peq rfl Tryz.underlying35 rfl rfl (WpL.nil (ZZ rfl rfl (Wp.skip (Qb (Qa (Qd rfl rfl ?_))))))))))))
       refine WpL.nil (Qb (Qb (Qa (Qd rfl rfl (WpL.nil (Wp.block ?_))))))
       refine Wp.ent (Take.ent' (pre := [esR aL cL es, psR gP a' b' d' ps0, QE gS [.slice aL es.length cL, .slice aI (XU es).length cI, .int .i64 s1.e, .int .i64 A1, .int .i64 s1.told] 33, imR aI cI (XU es), B, QE gB [.int .i64 a', .int .i64 b', .int .i64 d'] 24, QE gT (ts.map txV) 22, QE gL [.int .i64 a, .int .i64 b, .int .i64 d] 24]) (by repeat' constructor)) ?_
       refine Wp.exs Take1.here fun lE => ?_
       refine Wp.pur Take1.here fun hlEe => ?_
       refine Wp.loopD (σ := Nat) (fun k => k ≤ ts[i].bs.length + 1) [14, 20, 21, 22, 23, 53, 54, 55, 56, 57, 58, 59, 60, 61, 62, 63, 64, 65, 66, 67, 68, 69, 70, 71, 72, 73, 74, 75, 76, 77, 78, 79, 80, 81, 82, 83, 84, 85, 86, 87, 88, 89, 90, 91, 92, 93, 94, 95, 96, 97, 98, 99, 100, 101, 102, 103, 104, 105, 106, 107, 108, 109, 110, 111, 112, 113, 114] (fun k => [(21, .int .i64 (k : Int)), (20, .int .i64 (((Zk (Qy a') (Qz b') (QA d') ts[i].bs k).2.length : Nat) : Int))]) (fun k => [psR gP a' b' d' (Zk (Qy a') (Qz b') (QA d') ts[i].bs k).1, QE gS [.slice aL es.length cL, .slice aI (XU es).length cI, .int .i64 s1.e, .int .i64 A1, .int .i64 s1.told] 33, own 53 7 aL cL es.length (lE.flatMap (fun r => Zo r.1 r.2.1 r.2.2)), Ym (lE.map (fun r => own 92 1 r.2.1 r.2.2 (Y9 r.1).length (Xx (Y9 r.1)))), imR aI cI (XU es), B, QE gB [.int .i64 a', .int .i64 b', .int .i64 d'] 24, QE gT (ts.map txV) 22, QE gL [.int .i64 a, .int .i64 b, .int .i64 d] 24]) (fun k => ts[i].bs.length + 1 - k) 0 ?_ (FrLe.cons rfl (FrLe.cons (by rw [rdF_le _ _ _ (Nat.zero_le _)]; rfl) FrLe.nil)) ?_ ?_
       ·exact Nat.zero_le _
       ·rw [rdF_le _ _ _ (Nat.zero_le _)]
        exact Take.ent' (by repeat' constructor)
       ·intro k hk
        refine Qb (Qb (Qa (Qc rfl rfl (Qc rfl rfl (Qc rfl rfl (Xj i rfl rfl rfl (ZN (ts := ts)) (by exact Take.ent' (by repeat' constructor)) (by omega) (by omega) (by rw [List.length_map]; exact hit) ?_))))))
        refine Xo rfl rfl (ZN (ts := ts)) (by exact Take.ent' (by repeat' constructor)) (txv_at ts hit) ?_
        refine QK rfl rfl (s_le rfl rfl rfl (WpL.nil (Qh rfl (fun h5 => ?_) (fun h5 => ?_))))
        ·have hk1 : k ≤ ts[i].bs.length := by omega
         have hI := rdF_I a' b' d' ts[i].bs htb hk1
         obtain ⟨zz, hzz⟩ := rdF_pre (Qy a') (Qz b') (QA d') ts[i].bs (ts[i].bs.length - k) (k + 1) (by omega)
         rw [← hall, ZB _ _ _ hk1] at hzz
         have hzl := congrArg List.length hzz
         simp only [List.length_append, List.length_map] at hzl
         refine Wp.skip (Qb (Wp.block ?_))
         refine Qb (Qa (Qd rfl rfl (WpL.nil (Qb (Qb (Qa (Qc rfl rfl (Qc rfl rfl (Qc rfl rfl (Xj i rfl rfl rfl (ZN (ts := ts)) (by exact Take.ent' (by repeat' constructor)) (by omega) (by omega) (by rw [List.length_map]; exact hit) ?_))))))))))
         refine Xo rfl rfl (ZN (ts := ts)) (by exact Take.ent' (by repeat' constructor)) (txv_at ts hit) ?_
         refine QK rfl rfl (Xa rfl rfl rfl (WpL.nil (Qh rfl (fun h6 => ?_) (fun h6 => ?_))))
         ·have hlt : k < ts[i].bs.length := by omega
          have hcb := htb _ (List.getElem_mem hlt)
          refine Qa (Qc rfl rfl (Qc rfl rfl (Qc rfl rfl (Xj i rfl rfl rfl (ZN (ts := ts)) (by exact Take.ent' (by repeat' constructor)) (by omega) (by omega) (by rw [List.length_map]; exact hit) ?_))))
          refine Xo rfl rfl (ZN (ts := ts)) (by exact Take.ent' (by repeat' constructor)) (txv_at ts hit) ?_
          refine Qc rfl rfl (Xj k rfl rfl rfl htA (by exact Take.ent' (by repeat' constructor)) rfl (by omega) (by rw [Xz]; exact hlt) ?_)
          refine Xo rfl rfl htA (by exact Take.ent' (by repeat' constructor)) (Zm ts[i].bs hlt) ?_
          refine Qj rfl rfl (by repeat' constructor) (psPut_rep gP a' b' d' _ _ (by omega) hI _ (by omega) (by omega)) ?_
          rintro _ _ rfl
          simp only [Qw]
          rw [← stF_lt (Qy a') (Qz b') (QA d') hlt]
          refine WpL.ent (Take.ent' (pre := [evO _ (stF (Qy a') (Qz b') (QA d') ts[i].bs k).2, psR gP a' b' d' (stF (Qy a') (Qz b') (QA d') ts[i].bs k).1, QE gS [.slice aL es.length cL, .slice aI (XU es).length cI, .int .i64 s1.e, .int .i64 A1, .int .i64 s1.told] 33, own 53 7 aL cL es.length (lE.flatMap (fun r => Zo r.1 r.2.1 r.2.2)), Ym (lE.map (fun r => own 92 1 r.2.1 r.2.2 (Y9 r.1).length (Xx (Y9 r.1)))), imR aI cI (XU es), B, QE gB [.int .i64 a', .int .i64 b', .int .i64 d'] 24, QE gT (ts.map txV) 22, QE gL [.int .i64 a, .int .i64 b, .int .i64 d] 24]) (by repeat' constructor)) ?_
          refine WpL.ent (evO_rc (stF_ok _ _ _ _ _)) (WpL.exs Take1.here fun pv => ?_)
          refine WpL.pur Take1.here fun hv => ?_
          obtain ⟨aE, cE⟩ := pv
          dsimp only at hv
          subst hv
          refine Qd rfl rfl (WpL.nil (Qb (Qa (Qd rfl rfl (WpL.nil (Wp.block ?_))))))
          refine Wp.exs Take1.here fun lV => ?_
          refine Wp.pur Take1.here fun hlVe => ?_
          refine Wp.loopD (σ := Nat) (fun j => j ≤ (stF (Qy a') (Qz b') (QA d') ts[i].bs k).2.length) [14, 20, 23, 80, 81, 82, 83, 84, 85, 86, 87, 88, 89, 90, 91, 92, 93, 94, 95, 96, 97, 98, 99, 100, 101, 102, 103, 104, 105, 106, 107, 108, 109, 110, 111, 112, 113, 114] (fun j => [(23, .int .i64 (j : Int)), (20, .int .i64 ((((Zk (Qy a') (Qz b') (QA d') ts[i].bs k).2.length + j) : Nat) : Int))]) (fun j => [own 51 6 aE cE (stF (Qy a') (Qz b') (QA d') ts[i].bs k).2.length (lV.flatMap (fun r : Evt × Option Addr × Nat => Zl r.1 r.2.1 r.2.2)), Ym (lV.map fun r => own 92 1 r.2.1 r.2.2 r.1.row.length (Xx r.1.row)), psR gP a' b' d' (stF (Qy a') (Qz b') (QA d') ts[i].bs k).1, QE gS [.slice aL es.length cL, .slice aI (XU es).length cI, .int .i64 s1.e, .int .i64 A1, .int .i64 s1.told] 33, own 53 7 aL cL es.length (lE.flatMap (fun r => Zo r.1 r.2.1 r.2.2)), Ym (lE.map (fun r => own 92 1 r.2.1 r.2.2 (Y9 r.1).length (Xx (Y9 r.1)))), imR aI cI (XU es), B, QE gB [.int .i64 a', .int .i64 b', .int .i64 d'] 24, QE gT (ts.map txV) 22, QE gL [.int .i64 a, .int .i64 b, .int .i64 d] 24]) (fun j => (stF (Qy a') (Qz b') (QA d') ts[i].bs k).2.length - j) 0 ?_ (FrLe.cons rfl (FrLe.cons rfl FrLe.nil)) ?_ ?_
          ·exact Nat.zero_le _
          ·exact Ent.refl _
          ·intro j hj
           refine Qb (Qb (Qa (Qc rfl rfl (Qc rfl rfl (QK rfl rfl (Xa rfl rfl rfl (WpL.nil (Qh rfl (fun h8 => ?_) (fun h8 => ?_)))))))))
           ·have hjE : j < (stF (Qy a') (Qz b') (QA d') ts[i].bs k).2.length := by omega
            obtain ⟨hne, hat⟩ := rdF_at (Qy a') (Qz b') (QA d') hk1 hjE
            rw [← hall] at hne hat
            obtain ⟨_, hes⟩ := getE hat
            have hlV : j < lV.length := by rw [← hlVe, List.length_map] at hjE; exact hjE
            have hlE : ((Zk (Qy a') (Qz b') (QA d') ts[i].bs k).2.length + j) < lE.length := by have q := congrArg List.length hlEe; rw [List.length_map] at q; omega
            have e1 := map_fst hlVe hlV hjE
            have e2 := map_fst hlEe hlE hne
            rw [hes] at e2
            have e3 : lE[((Zk (Qy a') (Qz b') (QA d') ts[i].bs k).2.length + j)].1.1 = lV[j].1 := by rw [e2, e1]
            have e4 : lE[((Zk (Qy a') (Qz b') (QA d') ts[i].bs k).2.length + j)].1.2 = (k : Int) + 1 := by rw [e2]
            have hAV : RdsL [own 51 6 aE cE (stF (Qy a') (Qz b') (QA d') ts[i].bs k).2.length (lV.flatMap (fun r : Evt × Option Addr × Nat => Zl r.1 r.2.1 r.2.2))] aE (lV.flatMap (fun r : Evt × Option Addr × Nat => Zl r.1 r.2.1 r.2.2)) := Q4
            have hAE : RdsL [own 53 7 aL cL es.length (lE.flatMap (fun r => Zo r.1 r.2.1 r.2.2))] aL (lE.flatMap (fun r => Zo r.1 r.2.1 r.2.2)) := Q4
            have hnV : lV.flatMap (fun r : Evt × Option Addr × Nat => Zl r.1 r.2.1 r.2.2) ≠ [] := fun q => by have := Ye (s := 6) (f := fun r : Evt × Option Addr × Nat => Zl r.1 r.2.1 r.2.2) (fun _ => rfl) lV j hlV; rw [q] at this; simp [Zl] at this
            have hnE : lE.flatMap (fun r => Zo r.1 r.2.1 r.2.2) ≠ [] := fun q => by have := Ye (s := 7) (f := fun r => Zo r.1 r.2.1 r.2.2) (fun _ => rfl) lE _ hlE; rw [q] at this; simp [Zo] at this
            have hc6 : (lE.flatMap (fun r => Zo r.1 r.2.1 r.2.2))[((Zk (Qy a') (Qz b') (QA d') ts[i].bs k).2.length + j) * 7 + 6]? = some (.int .i64 ((k : Int) + 1)) := by rw [flat_cell (s := 7) (f := fun r => Zo r.1 r.2.1 r.2.2) (fun _ => rfl) lE _ 6 hlE (by decide), ← e4]; rfl
            refine Wp.ownMax (Ent.trans (Take.ent' (pre := [Ym (lE.map (fun r => own 92 1 r.2.1 r.2.2 (Y9 r.1).length (Xx (Y9 r.1))))]) (by repeat' constructor)) (Z4 (List.mem_map_of_mem (List.getElem_mem hlE)))) (fun hrl => ?_)
            rw [show Y9 lE[((Zk (Qy a') (Qz b') (QA d') ts[i].bs k).2.length + j)].1 = lE[((Zk (Qy a') (Qz b') (QA d') ts[i].bs k).2.length + j)].1.1.row from rfl] at hrl
            refine Wp.skip (Qb (Wp.block ?_))
            refine Qb (Qb (Qa (Qc rfl rfl (Qi (o2 := 0) rfl rfl rfl (Qn rfl rfl (by rfl) ?_)))))
            refine QK rfl rfl (s_ge rfl rfl rfl (WpL.nil (QB rfl (by omega) ?_)))
            refine Wp.skip (Qb (Qb ?_))
            apply QZ mixed [⟨91, _, []⟩, ⟨92, _, []⟩, ⟨93, _, [0, 1]⟩, ⟨94, _, [2]⟩, ⟨95, _, []⟩, ⟨96, _, [4]⟩, ⟨97, _, []⟩, ⟨98, _, [5, 6]⟩, ⟨99, _, [7]⟩, ⟨100, _, [3, 8]⟩, ⟨101, _, [9]⟩, ⟨102, _, [10, 9]⟩, ⟨103, _, [11]⟩, ⟨104, _, [12, 11]⟩, ⟨105, _, [11]⟩, ⟨106, _, [13, 14, 11]⟩, ⟨107, _, [15, 11]⟩, ⟨108, _, [16, 11]⟩, ⟨109, _, [11]⟩, ⟨110, _, [18, 11]⟩, ⟨111, _, [17, 19, 11]⟩, ⟨112, _, [11, 20]⟩] rfl
            ·refine AllObs.mk ?_ ?_
             ·exact Qc rfl rfl (Ql rfl)
             refine AllObs.mk ?_ ?_
             ·exact Qc rfl rfl (Ql rfl)
             refine AllObs.mk ?_ ?_
             ·refine s_ixR (s := 6) j rfl rfl rfl hAV (by exact Take.ent' (by repeat' constructor)) rfl (by omega) hnV ?_
              exact Ql rfl
             refine AllObs.mk ?_ ?_
             ·refine s_ldaX (vs := Zl lV[j].1 lV[j].2.1 lV[j].2.2) rfl rfl hAV (by exact Take.ent' (by repeat' constructor)) hnV rfl (Ye (s := 6) (f := fun r : Evt × Option Addr × Nat => Zl r.1 r.2.1 r.2.2) (fun _ => rfl) lV j hlV) ?_
              rw [← e3]
              exact Ql rfl
             refine AllObs.mk ?_ ?_
             ·exact Qi (o2 := 0) rfl rfl rfl (Ql rfl)
             refine AllObs.mk ?_ ?_
             ·refine Qn rfl rfl (by rfl) ?_
              exact Ql rfl
             refine AllObs.mk ?_ ?_
             ·exact Qc rfl rfl (Ql rfl)
             refine AllObs.mk ?_ ?_
             ·refine s_ixR (s := 7) ((Zk (Qy a') (Qz b') (QA d') ts[i].bs k).2.length + j) rfl rfl rfl hAE (by exact Take.ent' (by repeat' constructor)) rfl (by omega) hnE ?_
              exact Ql rfl
             refine AllObs.mk ?_ ?_
             ·refine s_ldaX (vs := Zo lE[((Zk (Qy a') (Qz b') (QA d') ts[i].bs k).2.length + j)].1 lE[((Zk (Qy a') (Qz b') (QA d') ts[i].bs k).2.length + j)].2.1 lE[((Zk (Qy a') (Qz b') (QA d') ts[i].bs k).2.length + j)].2.2) rfl rfl hAE (by exact Take.ent' (by repeat' constructor)) hnE rfl (Ye (s := 7) (f := fun r => Zo r.1 r.2.1 r.2.2) (fun _ => rfl) lE ((Zk (Qy a') (Qz b') (QA d') ts[i].bs k).2.length + j) hlE) ?_
              exact Ql rfl
             refine AllObs.mk ?_ ?_
             ·refine Qj rfl rfl (by repeat' constructor) (like_spec [Ym (lV.map fun r => own 92 1 r.2.1 r.2.2 r.1.row.length (Xx r.1.row)), Ym (lE.map (fun r => own 92 1 r.2.1 r.2.2 (Y9 r.1).length (Xx (Y9 r.1))))] lV[j].2.1 lV[j].2.2 lE[((Zk (Qy a') (Qz b') (QA d') ts[i].bs k).2.length + j)].1 lE[((Zk (Qy a') (Qz b') (QA d') ts[i].bs k).2.length + j)].2.1 lE[((Zk (Qy a') (Qz b') (QA d') ts[i].bs k).2.length + j)].2.2 (by rw [e3]; exact (rc_row (row := Evt.row) (List.getElem_mem hlV)).head) (rc_row (row := Y9) (List.getElem_mem hlE)).tail hrl) ?_
              rintro _ _ ⟨rfl, rfl⟩
              simp only [Qw]
              exact WpL.nil ⟨rfl, rfl, rfl, by exact Take.ent' (by repeat' constructor)⟩
             refine AllObs.mk ?_ ?_
             ·exact ZC rfl rfl (Ql rfl)
             refine AllObs.mk ?_ ?_
             ·exact Qc rfl rfl (Ql rfl)
             refine AllObs.mk ?_ ?_
             ·exact Qf rfl rfl (Qi (o2 := 0) rfl rfl rfl (Ql rfl))
             refine AllObs.mk ?_ ?_
             ·refine Qf rfl rfl (Qn rfl rfl (by rfl) ?_)
              exact Ql rfl
             refine AllObs.mk ?_ ?_
             ·exact Qf rfl rfl (Qc rfl rfl (Ql rfl))
             refine AllObs.mk ?_ ?_
             ·refine Qf rfl rfl (s_ixR (s := 7) ((Zk (Qy a') (Qz b') (QA d') ts[i].bs k).2.length + j) rfl rfl rfl hAE (by exact Take.ent' (by repeat' constructor)) rfl (by omega) hnE ?_)
              exact Ql rfl
             refine AllObs.mk ?_ ?_
             ·refine Qf rfl rfl (s_faR (((Zk (Qy a') (Qz b') (QA d') ts[i].bs k).2.length + j) * 7 + 6) rfl rfl hAE (by exact Take.ent' (by repeat' constructor)) hnE rfl ?_)
              exact Ql rfl
             refine AllObs.mk ?_ ?_
             ·refine Qf rfl rfl (Xo rfl rfl hAE (by exact Take.ent' (by repeat' constructor)) hc6 ?_)
              exact Ql rfl
             refine AllObs.mk ?_ ?_
             ·exact Qf rfl rfl (Qc rfl rfl (Ql rfl))
             refine AllObs.mk ?_ ?_
             ·refine Qf rfl rfl (Qx rfl rfl rfl (Qp (by omega) (by omega)) ?_)
              exact Ql rfl
             refine AllObs.mk ?_ ?_
             ·exact Qf rfl rfl (Xp rfl rfl rfl (Ql rfl))
             refine AllObs.mk ?_ ?_
             ·exact Qu rfl rfl rfl (Ql rfl)
             exact AllObs.nil
            ·refine QB rfl (fun h => h rfl) ?_
             refine Wp.skip (Qa (Qc rfl rfl (Qx rfl rfl rfl (Qp (by omega) (by omega)) ?_)))
             refine Qd rfl rfl (WpL.nil (Qa (Qc rfl rfl (Qx rfl rfl rfl (Qp (by omega) (by omega)) ?_))))
             refine Qd rfl rfl (WpL.nil (Qq (j + 1) ?_ ?_ (by ((repeat (first | exact Top.refl | refine Top.push rfl ?_)); done)) (FrLe.cons rfl (FrLe.cons (by exact congrArg (fun z => some (Value.int .i64 z)) (by push_cast; omega)) FrLe.nil)) ?_))
             ·omega
             ·omega
             ·exact Ent.refl _
           ·obtain rfl : j = (stF (Qy a') (Qz b') (QA d') ts[i].bs k).2.length := by omega
            refine QT (Qa (Qc rfl rfl (Qx rfl rfl rfl (Qp (by omega) (by omega)) ?_)))
            refine Qd rfl rfl (WpL.nil (Qq (k + 1) ?_ ?_ (by ((repeat (first | exact Top.refl | refine Top.push rfl ?_)); done)) (FrLe.cons rfl (FrLe.cons (by exact congrArg (fun z => some (Value.int .i64 z)) (by rw [ZB _ _ _ hk1]; simp only [List.length_append, List.length_map])) FrLe.nil)) ?_))
            ·omega
            ·omega
            ·rw [ZB _ _ _ hk1]
             exact Take.ent' (by repeat' constructor)
         ·have hge : ¬ k < ts[i].bs.length := by omega
          refine Qa (Qc rfl rfl (Qj rfl rfl (by repeat' constructor) (psEnd_rep gP a' b' d' _ _ (by omega) hI) ?_))
          rintro _ _ rfl
          simp only [Qw]
          rw [← stF_ge (Qy a') (Qz b') (QA d') hge]
          refine WpL.ent (Take.ent' (pre := [evO _ (stF (Qy a') (Qz b') (QA d') ts[i].bs k).2, psR gP a' b' d' (stF (Qy a') (Qz b') (QA d') ts[i].bs k).1, QE gS [.slice aL es.length cL, .slice aI (XU es).length cI, .int .i64 s1.e, .int .i64 A1, .int .i64 s1.told] 33, own 53 7 aL cL es.length (lE.flatMap (fun r => Zo r.1 r.2.1 r.2.2)), Ym (lE.map (fun r => own 92 1 r.2.1 r.2.2 (Y9 r.1).length (Xx (Y9 r.1)))), imR aI cI (XU es), B, QE gB [.int .i64 a', .int .i64 b', .int .i64 d'] 24, QE gT (ts.map txV) 22, QE gL [.int .i64 a, .int .i64 b, .int .i64 d] 24]) (by repeat' constructor)) ?_
          refine WpL.ent (evO_rc (stF_ok _ _ _ _ _)) (WpL.exs Take1.here fun pv => ?_)
          refine WpL.pur Take1.here fun hv => ?_
          obtain ⟨aE, cE⟩ := pv
          dsimp only at hv
          subst hv
          refine Qd rfl rfl (WpL.nil (Qb (Qa (Qd rfl rfl (WpL.nil (Wp.block ?_))))))
          refine Wp.exs Take1.here fun lV => ?_
          refine Wp.pur Take1.here fun hlVe => ?_
          refine Wp.loopD (σ := Nat) (fun j => j ≤ (stF (Qy a') (Qz b') (QA d') ts[i].bs k).2.length) [14, 20, 23, 80, 81, 82, 83, 84, 85, 86, 87, 88, 89, 90, 91, 92, 93, 94, 95, 96, 97, 98, 99, 100, 101, 102, 103, 104, 105, 106, 107, 108, 109, 110, 111, 112, 113, 114] (fun j => [(23, .int .i64 (j : Int)), (20, .int .i64 ((((Zk (Qy a') (Qz b') (QA d') ts[i].bs k).2.length + j) : Nat) : Int))]) (fun j => [own 51 6 aE cE (stF (Qy a') (Qz b') (QA d') ts[i].bs k).2.length (lV.flatMap (fun r : Evt × Option Addr × Nat => Zl r.1 r.2.1 r.2.2)), Ym (lV.map fun r => own 92 1 r.2.1 r.2.2 r.1.row.length (Xx r.1.row)), psR gP a' b' d' (stF (Qy a') (Qz b') (QA d') ts[i].bs k).1, QE gS [.slice aL es.length cL, .slice aI (XU es).length cI, .int .i64 s1.e, .int .i64 A1, .int .i64 s1.told] 33, own 53 7 aL cL es.length (lE.flatMap (fun r => Zo r.1 r.2.1 r.2.2)), Ym (lE.map (fun r => own 92 1 r.2.1 r.2.2 (Y9 r.1).length (Xx (Y9 r.1)))), imR aI cI (XU es), B, QE gB [.int .i64 a', .int .i64 b', .int .i64 d'] 24, QE gT (ts.map txV) 22, QE gL [.int .i64 a, .int .i64 b, .int .i64 d] 24]) (fun j => (stF (Qy a') (Qz b') (QA d') ts[i].bs k).2.length - j) 0 ?_ (FrLe.cons rfl (FrLe.cons rfl FrLe.nil)) ?_ ?_
          ·exact Nat.zero_le _
          ·exact Ent.refl _
          ·intro j hj
           refine Qb (Qb (Qa (Qc rfl rfl (Qc rfl rfl (QK rfl rfl (Xa rfl rfl rfl (WpL.nil (Qh rfl (fun h8 => ?_) (fun h8 => ?_)))))))))
           ·have hjE : j < (stF (Qy a') (Qz b') (QA d') ts[i].bs k).2.length := by omega
            obtain ⟨hne, hat⟩ := rdF_at (Qy a') (Qz b') (QA d') hk1 hjE
            rw [← hall] at hne hat
            obtain ⟨_, hes⟩ := getE hat
            have hlV : j < lV.length := by rw [← hlVe, List.length_map] at hjE; exact hjE
            have hlE : ((Zk (Qy a') (Qz b') (QA d') ts[i].bs k).2.length + j) < lE.length := by have q := congrArg List.length hlEe; rw [List.length_map] at q; omega
            have e1 := map_fst hlVe hlV hjE
            have e2 := map_fst hlEe hlE hne
            rw [hes] at e2
            have e3 : lE[((Zk (Qy a') (Qz b') (QA d') ts[i].bs k).2.length + j)].1.1 = lV[j].1 := by rw [e2, e1]
            have e4 : lE[((Zk (Qy a') (Qz b') (QA d') ts[i].bs k).2.length + j)].1.2 = (k : Int) + 1 := by rw [e2]
            have hAV : RdsL [own 51 6 aE cE (stF (Qy a') (Qz b') (QA d') ts[i].bs k).2.length (lV.flatMap (fun r : Evt × Option Addr × Nat => Zl r.1 r.2.1 r.2.2))] aE (lV.flatMap (fun r : Evt × Option Addr × Nat => Zl r.1 r.2.1 r.2.2)) := Q4
            have hAE : RdsL [own 53 7 aL cL es.length (lE.flatMap (fun r => Zo r.1 r.2.1 r.2.2))] aL (lE.flatMap (fun r => Zo r.1 r.2.1 r.2.2)) := Q4
            have hnV : lV.flatMap (fun r : Evt × Option Addr × Nat => Zl r.1 r.2.1 r.2.2) ≠ [] := fun q => by have := Ye (s := 6) (f := fun r : Evt × Option Addr × Nat => Zl r.1 r.2.1 r.2.2) (fun _ => rfl) lV j hlV; rw [q] at this; simp [Zl] at this
            have hnE : lE.flatMap (fun r => Zo r.1 r.2.1 r.2.2) ≠ [] := fun q => by have := Ye (s := 7) (f := fun r => Zo r.1 r.2.1 r.2.2) (fun _ => rfl) lE _ hlE; rw [q] at this; simp [Zo] at this
            have hc6 : (lE.flatMap (fun r => Zo r.1 r.2.1 r.2.2))[((Zk (Qy a') (Qz b') (QA d') ts[i].bs k).2.length + j) * 7 + 6]? = some (.int .i64 ((k : Int) + 1)) := by rw [flat_cell (s := 7) (f := fun r => Zo r.1 r.2.1 r.2.2) (fun _ => rfl) lE _ 6 hlE (by decide), ← e4]; rfl
            refine Wp.ownMax (Ent.trans (Take.ent' (pre := [Ym (lE.map (fun r => own 92 1 r.2.1 r.2.2 (Y9 r.1).length (Xx (Y9 r.1))))]) (by repeat' constructor)) (Z4 (List.mem_map_of_mem (List.getElem_mem hlE)))) (fun hrl => ?_)
            rw [show Y9 lE[((Zk (Qy a') (Qz b') (QA d') ts[i].bs k).2.length + j)].1 = lE[((Zk (Qy a') (Qz b') (QA d') ts[i].bs k).2.length + j)].1.1.row from rfl] at hrl
            refine Wp.skip (Qb (Wp.block ?_))
            refine Qb (Qb (Qa (Qc rfl rfl (Qi (o2 := 0) rfl rfl rfl (Qn rfl rfl (by rfl) ?_)))))
            refine QK rfl rfl (s_ge rfl rfl rfl (WpL.nil (QB rfl (by omega) ?_)))
            refine Wp.skip (Qb (Qb ?_))
            apply QZ mixed [⟨91, _, []⟩, ⟨92, _, []⟩, ⟨93, _, [0, 1]⟩, ⟨94, _, [2]⟩, ⟨95, _, []⟩, ⟨96, _, [4]⟩, ⟨97, _, []⟩, ⟨98, _, [5, 6]⟩, ⟨99, _, [7]⟩, ⟨100, _, [3, 8]⟩, ⟨101, _, [9]⟩, ⟨102, _, [10, 9]⟩, ⟨103, _, [11]⟩, ⟨104, _, [12, 11]⟩, ⟨105, _, [11]⟩, ⟨106, _, [13, 14, 11]⟩, ⟨107, _, [15, 11]⟩, ⟨108, _, [16, 11]⟩, ⟨109, _, [11]⟩, ⟨110, _, [18, 11]⟩, ⟨111, _, [17, 19, 11]⟩, ⟨112, _, [11, 20]⟩] rfl
            ·refine AllObs.mk ?_ ?_
             ·exact Qc rfl rfl (Ql rfl)
             refine AllObs.mk ?_ ?_
             ·exact Qc rfl rfl (Ql rfl)
             refine AllObs.mk ?_ ?_
             ·refine s_ixR (s := 6) j rfl rfl rfl hAV (by exact Take.ent' (by repeat' constructor)) rfl (by omega) hnV ?_
              exact Ql rfl
             refine AllObs.mk ?_ ?_
             ·refine s_ldaX (vs := Zl lV[j].1 lV[j].2.1 lV[j].2.2) rfl rfl hAV (by exact Take.ent' (by repeat' constructor)) hnV rfl (Ye (s := 6) (f := fun r : Evt × Option Addr × Nat => Zl r.1 r.2.1 r.2.2) (fun _ => rfl) lV j hlV) ?_
              rw [← e3]
              exact Ql rfl
             refine AllObs.mk ?_ ?_
             ·exact Qi (o2 := 0) rfl rfl rfl (Ql rfl)
             refine AllObs.mk ?_ ?_
             ·refine Qn rfl rfl (by rfl) ?_
              exact Ql rfl
             refine AllObs.mk ?_ ?_
             ·exact Qc rfl rfl (Ql rfl)
             refine AllObs.mk ?_ ?_
             ·refine s_ixR (s := 7) ((Zk (Qy a') (Qz b') (QA d') ts[i].bs k).2.length + j) rfl rfl rfl hAE (by exact Take.ent' (by repeat' constructor)) rfl (by omega) hnE ?_
              exact Ql rfl
             refine AllObs.mk ?_ ?_
             ·refine s_ldaX (vs := Zo lE[((Zk (Qy a') (Qz b') (QA d') ts[i].bs k).2.length + j)].1 lE[((Zk (Qy a') (Qz b') (QA d') ts[i].bs k).2.length + j)].2.1 lE[((Zk (Qy a') (Qz b') (QA d') ts[i].bs k).2.length + j)].2.2) rfl rfl hAE (by exact Take.ent' (by repeat' constructor)) hnE rfl (Ye (s := 7) (f := fun r => Zo r.1 r.2.1 r.2.2) (fun _ => rfl) lE ((Zk (Qy a') (Qz b') (QA d') ts[i].bs k).2.length + j) hlE) ?_
              exact Ql rfl
             refine AllObs.mk ?_ ?_
             ·refine Qj rfl rfl (by repeat' constructor) (like_spec [Ym (lV.map fun r => own 92 1 r.2.1 r.2.2 r.1.row.length (Xx r.1.row)), Ym (lE.map (fun r => own 92 1 r.2.1 r.2.2 (Y9 r.1).length (Xx (Y9 r.1))))] lV[j].2.1 lV[j].2.2 lE[((Zk (Qy a') (Qz b') (QA d') ts[i].bs k).2.length + j)].1 lE[((Zk (Qy a') (Qz b') (QA d') ts[i].bs k).2.length + j)].2.1 lE[((Zk (Qy a') (Qz b') (QA d') ts[i].bs k).2.length + j)].2.2 (by rw [e3]; exact (rc_row (row := Evt.row) (List.getElem_mem hlV)).head) (rc_row (row := Y9) (List.getElem_mem hlE)).tail hrl) ?_
              rintro _ _ ⟨rfl, rfl⟩
              simp only [Qw]
              exact WpL.nil ⟨rfl, rfl, rfl, by exact Take.ent' (by repeat' constructor)⟩
             refine AllObs.mk ?_ ?_
             ·exact ZC rfl rfl (Ql rfl)
             refine AllObs.mk ?_ ?_
             ·exact Qc rfl rfl (Ql rfl)
             refine AllObs.mk ?_ ?_
             ·exact Qf rfl rfl (Qi (o2 := 0) rfl rfl rfl (Ql rfl))
             refine AllObs.mk ?_ ?_
             ·refine Qf rfl rfl (Qn rfl rfl (by rfl) ?_)
              exact Ql rfl
             refine AllObs.mk ?_ ?_
             ·exact Qf rfl rfl (Qc rfl rfl (Ql rfl))
             refine AllObs.mk ?_ ?_
             ·refine Qf rfl rfl (s_ixR (s := 7) ((Zk (Qy a') (Qz b') (QA d') ts[i].bs k).2.length + j) rfl rfl rfl hAE (by exact Take.ent' (by repeat' constructor)) rfl (by omega) hnE ?_)
              exact Ql rfl
             refine AllObs.mk ?_ ?_
             ·refine Qf rfl rfl (s_faR (((Zk (Qy a') (Qz b') (QA d') ts[i].bs k).2.length + j) * 7 + 6) rfl rfl hAE (by exact Take.ent' (by repeat' constructor)) hnE rfl ?_)
              exact Ql rfl
             refine AllObs.mk ?_ ?_
             ·refine Qf rfl rfl (Xo rfl rfl hAE (by exact Take.ent' (by repeat' constructor)) hc6 ?_)
              exact Ql rfl
             refine AllObs.mk ?_ ?_
             ·exact Qf rfl rfl (Qc rfl rfl (Ql rfl))
             refine AllObs.mk ?_ ?_
             ·refine Qf rfl rfl (Qx rfl rfl rfl (Qp (by omega) (by omega)) ?_)
              exact Ql rfl
             refine AllObs.mk ?_ ?_
             ·exact Qf rfl rfl (Xp rfl rfl rfl (Ql rfl))
             refine AllObs.mk ?_ ?_
             ·exact Qu rfl rfl rfl (Ql rfl)
             exact AllObs.nil
            ·refine QB rfl (fun h => h rfl) ?_
             refine Wp.skip (Qa (Qc rfl rfl (Qx rfl rfl rfl (Qp (by omega) (by omega)) ?_)))
             refine Qd rfl rfl (WpL.nil (Qa (Qc rfl rfl (Qx rfl rfl rfl (Qp (by omega) (by omega)) ?_))))
             refine Qd rfl rfl (WpL.nil (Qq (j + 1) ?_ ?_ (by ((repeat (first | exact Top.refl | refine Top.push rfl ?_)); done)) (FrLe.cons rfl (FrLe.cons (by exact congrArg (fun z => some (Value.int .i64 z)) (by push_cast; omega)) FrLe.nil)) ?_))
             ·omega
             ·omega
             ·exact Ent.refl _
           ·obtain rfl : j = (stF (Qy a') (Qz b') (QA d') ts[i].bs k).2.length := by omega
            refine QT (Qa (Qc rfl rfl (Qx rfl rfl rfl (Qp (by omega) (by omega)) ?_)))
            refine Qd rfl rfl (WpL.nil (Qq (k + 1) ?_ ?_ (by ((repeat (first | exact Top.refl | refine Top.push rfl ?_)); done)) (FrLe.cons rfl (FrLe.cons (by exact congrArg (fun z => some (Value.int .i64 z)) (by rw [ZB _ _ _ hk1]; simp only [List.length_append, List.length_map])) FrLe.nil)) ?_))
            ·omega
            ·omega
            ·rw [ZB _ _ _ hk1]
             exact Take.ent' (by repeat' constructor)
        ·obtain rfl : k = ts[i].bs.length + 1 := by omega
         rw [rdF_end, ← hall]
         dsimp only
         have hdd := psAll_dead (Qy a') (Qz b') (QA d') ts[i].bs
         rw [← hall] at hdd
         have hdd := dead_of hdd
         have hI1 : psI (Qy a') (Qz b') (QA d') (4 * ts[i].bs.length + 4) s1 := by
          have q := psAll_I (Qy a') (Qz b') (QA d') ts[i].bs (4 * ts[i].bs.length + 4) (by omega) (by rw [← hall]; exact hel) (by have q := rdF_I a' b' d' ts[i].bs htb (Nat.le_refl _); rwa [rdF_le _ _ _ (Nat.le_refl _), List.take_length] at q)
          rwa [← hall] at q
         have him : s1.imgs = ((XU es).length : Int) := by
          have q := psAll_imgs (Qy a') (Qz b') (QA d') true ts[i].bs
          rw [← hall] at q
          rw [q]; exact img_cnt es
         have he13 : (if s1.e = 0 then 0 else s1.e) = s1.e := by by_cases h : s1.e = 0 <;> simp [h]
         refine QT (Qb (Qa (Qc rfl rfl (Qj rfl rfl (by repeat' constructor) (psError_rep gP a' b' d' _) ?_))))
         rintro _ _ ⟨rfl, rfl⟩
         simp only [Qw]
         refine Qc rfl rfl (QL rfl rfl rfl (QL rfl rfl rfl (Qd rfl rfl (Qd rfl rfl (WpL.nil (Qb ?_))))))
         apply Xd (fB := []) mixed [(34, false), (5, false)] (by kernel_rfl)
         apply Q7 [Fl.mk 0 120 _ [] false, Fl.mk 1 121 _ [] false, Fl.mk 2 122 _ [1] false, Fl.mk 3 123 _ [2] false, Fl.mk 4 124 _ [0, 3] false, Fl.mk 5 125 _ [4] false, Fl.mk 6 126 _ [5] false, Fl.mk 7 127 _ [5] false, Fl.mk 8 128 _ [5, 7] false, Fl.mk 9 129 _ [5, 6, 8] false, Fl.mk 10 130 _ [5, 9] false, Fl.mk 11 131 _ [5, 10] false, Fl.mk 12 132 _ [11] false, Fl.mk 13 133 _ [11] false, Fl.mk 14 134 _ [11, 13] false, Fl.mk 15 135 _ [11, 12, 14] false, Fl.mk 16 136 _ [11, 15] false, Fl.mk 17 137 _ [11, 16] false, Fl.mk 18 138 _ [17] false, Fl.mk 19 139 _ [17, 18] false, Fl.mk 20 140 _ [17] false, Fl.mk 21 141 _ [17, 20] false, Fl.mk 22 142 _ [17, 19, 21] false, Fl.mk 23 143 _ [17, 22] false, Fl.mk 24 144 _ [19, 23] false, Fl.mk 25 145 _ [24] false, Fl.mk 26 146 _ [24, 25] false, Fl.mk 27 147 _ [24] false, Fl.mk 28 148 _ [24, 27] false, Fl.mk 29 149 _ [24, 28] false, Fl.mk 30 150 _ [24, 26, 29] false, Fl.mk 31 151 _ [24, 30] false, Fl.mk 32 152 _ [26, 31] false, Fl.mk 33 153 _ [32] false] [] [0, 1, 2, 3, 4, 5, 6, 7, 8, 9, 10, 11, 12, 13, 14, 15, 16, 17, 18, 19, 20, 21, 22, 23, 24, 25, 26, 27, 28, 29, 30, 31, 32, 33] [155, 156, 157, 158, 159, 160, 161, 162, 163] [155, 156, 157, 158, 159, 160, 161, 162, 163] (.inr rfl) rfl rfl rfl (by kernel_rfl) rfl (by kernel_rfl) rfl rfl
         ·refine AllF.cons rfl rfl rfl rfl ?_ ?_
          ·exact Qc rfl rfl (Ql rfl)
          refine AllF.cons rfl rfl rfl rfl ?_ ?_
          ·exact Qi (o2 := 0) rfl rfl rfl (Ql rfl)
          refine AllF.cons rfl rfl rfl rfl ?_ ?_
          ·refine Qn rfl rfl (by rfl) ?_
           exact Ql rfl
          refine AllF.cons rfl rfl rfl rfl ?_ ?_
          ·exact QK rfl rfl (WpL.nil ⟨rfl, rfl, rfl, by exact Ent.refl _⟩)
          refine AllF.cons rfl rfl rfl rfl ?_ ?_
          ·exact Xp rfl rfl rfl (Ql rfl)
          refine AllF.cons rfl rfl rfl rfl ?_ ?_
          ·exact Qc rfl rfl (Ql rfl)
          refine AllF.cons rfl rfl rfl rfl ?_ ?_
          ·refine Qv (dj := 125) rfl (decide_eq_false (fun h => h rfl)) ?_
           exact Qf rfl rfl (Qc rfl rfl (Ql rfl))
          refine AllF.cons rfl rfl rfl rfl ?_ ?_
          ·refine Qv (dj := 125) rfl (decide_eq_false (fun h => h rfl)) ?_
           exact Qf rfl rfl (Qi (o2 := 2) rfl rfl rfl (Ql rfl))
          refine AllF.cons rfl rfl rfl rfl ?_ ?_
          ·refine Qv (dj := 125) rfl (decide_eq_false (fun h => h rfl)) ?_
           refine Qf rfl rfl (Qn rfl rfl (by rfl) ?_)
           exact Ql rfl
          refine AllF.cons rfl rfl rfl rfl ?_ ?_
          ·refine Qv (dj := 125) rfl (decide_eq_false (fun h => h rfl)) ?_
           exact Qf rfl rfl (Xp rfl rfl rfl (Ql rfl))
          refine AllF.cons rfl rfl rfl rfl ?_ ?_
          ·refine Qv (dj := 125) rfl (decide_eq_false (fun h => h rfl)) ?_
           exact Qu rfl rfl rfl (Ql rfl)
          refine AllF.cons rfl rfl rfl rfl ?_ ?_
          ·exact Qc rfl rfl (Ql rfl)
          refine AllF.cons rfl rfl rfl rfl ?_ ?_
          ·refine Qv (dj := 131) rfl (decide_eq_false (fun h => h he13)) ?_
           exact Qf rfl rfl (Qc rfl rfl (Ql rfl))
          refine AllF.cons rfl rfl rfl rfl ?_ ?_
          ·refine Qv (dj := 131) rfl (decide_eq_false (fun h => h he13)) ?_
           exact Qf rfl rfl (Qi (o2 := 3) rfl rfl rfl (Ql rfl))
          refine AllF.cons rfl rfl rfl rfl ?_ ?_
          ·refine Qv (dj := 131) rfl (decide_eq_false (fun h => h he13)) ?_
           refine Qf rfl rfl (Qn rfl rfl (by rfl) ?_)
           exact Ql rfl
          refine AllF.cons rfl rfl rfl rfl ?_ ?_
          ·refine Qv (dj := 131) rfl (decide_eq_false (fun h => h he13)) ?_
           exact Qf rfl rfl (Xp rfl rfl rfl (Ql rfl))
          refine AllF.cons rfl rfl rfl rfl ?_ ?_
          ·refine Qv (dj := 131) rfl (decide_eq_false (fun h => h he13)) ?_
           exact Qu rfl rfl rfl (Ql rfl)
          refine AllF.cons rfl rfl rfl rfl ?_ ?_
          ·exact Qc rfl rfl (Ql rfl)
          refine AllF.cons rfl rfl rfl rfl ?_ ?_
          ·refine Qv (dj := 137) rfl (decide_eq_false (fun hx => hx hA1.symm)) ?_
           exact Qf rfl rfl (Qc rfl rfl (Ql rfl))
          refine AllF.cons rfl rfl rfl rfl ?_ ?_
          ·refine Qv (dj := 137) rfl (decide_eq_false (fun hx => hx hA1.symm)) ?_
           refine Qf rfl rfl (Qj rfl rfl (by repeat' constructor) (psTold_rep gP a' b' d' _) ?_)
           rintro _ _ ⟨rfl, rfl⟩
           simp only [Qw]
           exact WpL.nil ⟨rfl, rfl, rfl, by exact Ent.refl _⟩
          refine AllF.cons rfl rfl rfl rfl ?_ ?_
          ·refine Qv (dj := 137) rfl (decide_eq_false (fun hx => hx hA1.symm)) ?_
           exact Qf rfl rfl (Qi (o2 := 4) rfl rfl rfl (Ql rfl))
          refine AllF.cons rfl rfl rfl rfl ?_ ?_
          ·refine Qv (dj := 137) rfl (decide_eq_false (fun hx => hx hA1.symm)) ?_
           refine Qf rfl rfl (Qn rfl rfl (by rfl) ?_)
           exact Ql rfl
          refine AllF.cons rfl rfl rfl rfl ?_ ?_
          ·refine Qv (dj := 137) rfl (decide_eq_false (fun hx => hx hA1.symm)) ?_
           exact Qf rfl rfl (Xp rfl rfl rfl (Ql rfl))
          refine AllF.cons rfl rfl rfl rfl ?_ ?_
          ·refine Qv (dj := 137) rfl (decide_eq_false (fun hx => hx hA1.symm)) ?_
           exact Qu rfl rfl rfl (Ql rfl)
          refine AllF.cons rfl rfl rfl rfl ?_ ?_
          ·exact Qc rfl rfl (Ql rfl)
          refine AllF.cons rfl rfl rfl rfl ?_ ?_
          ·refine Qv (dj := 144) rfl (decide_eq_false (fun h => h rfl)) ?_
           exact Qf rfl rfl (Qc rfl rfl (Ql rfl))
          refine AllF.cons rfl rfl rfl rfl ?_ ?_
          ·refine Qv (dj := 144) rfl (decide_eq_false (fun h => h rfl)) ?_
           refine Qf rfl rfl (Qj rfl rfl (by repeat' constructor) (psImages_rep gP a' b' d' _) ?_)
           rintro _ _ ⟨rfl, rfl⟩
           simp only [Qw]
           exact WpL.nil ⟨rfl, rfl, rfl, by exact Ent.refl _⟩
          refine AllF.cons rfl rfl rfl rfl ?_ ?_
          ·refine Qv (dj := 144) rfl (decide_eq_false (fun h => h rfl)) ?_
           exact Qf rfl rfl (Qi (o2 := 1) rfl rfl rfl (Ql rfl))
          refine AllF.cons rfl rfl rfl rfl ?_ ?_
          ·refine Qv (dj := 144) rfl (decide_eq_false (fun h => h rfl)) ?_
           refine Qf rfl rfl (Qn rfl rfl (by rfl) ?_)
           exact Ql rfl
          refine AllF.cons rfl rfl rfl rfl ?_ ?_
          ·refine Qv (dj := 144) rfl (decide_eq_false (fun h => h rfl)) ?_
           exact Qf rfl rfl (QK rfl rfl (WpL.nil ⟨rfl, rfl, rfl, by exact Ent.refl _⟩))
          refine AllF.cons rfl rfl rfl rfl ?_ ?_
          ·refine Qv (dj := 144) rfl (decide_eq_false (fun h => h rfl)) ?_
           exact Qf rfl rfl (Xp rfl rfl rfl (Ql rfl))
          refine AllF.cons rfl rfl rfl rfl ?_ ?_
          ·refine Qv (dj := 144) rfl (decide_eq_false (fun h => h rfl)) ?_
           exact Qu rfl rfl rfl (Ql rfl)
          refine AllF.cons rfl rfl rfl rfl ?_ ?_
          ·exact Qc rfl rfl (Ql rfl)
          refine AllF.cons rfl rfl rfl rfl ?_ ?_
          ·refine Qv (dj := 152) rfl (decide_eq_false (fun h => h him)) ?_
           exact Qf rfl rfl (Qc rfl rfl (Ql rfl))
          exact AllF.nil
         ·refine Qv (dj := 152) rfl (decide_eq_false (fun h => h him)) ?_
          refine Qf rfl rfl (Qj rfl rfl (by repeat' constructor) (psPut_rep gP a' b' d' _ _ (by omega) hI1 _ (by omega) (by omega)) ?_)
          rintro _ _ rfl
          simp only [Qw]
          rw [psPut_dead _ _ _ hdd]
          refine WpL.exs (Take1.there Take1.here) fun pv => ?_
          refine WpL.pur Take1.here fun hv => ?_
          obtain ⟨aE, cE, aR, cR⟩ := pv
          dsimp only at hv
          subst hv
          refine WpL.nil ⟨rfl, rfl, ?_⟩
          apply Q7 [⟨35, 155, _, [32, 34], false⟩, ⟨36, 156, _, [32, 35], false⟩, ⟨37, 157, _, [32, 36], false⟩, ⟨38, 158, _, [34, 37], false⟩, ⟨39, 159, _, [38], false⟩] [] [35, 36, 37, 38, 39] [161, 162, 163] [161, 162, 163] (.inr rfl) rfl rfl rfl (by kernel_rfl) rfl (by kernel_rfl) rfl rfl
          ·refine AllF.cons rfl rfl rfl rfl ?_ ?_
           ·refine Qv (dj := 152) rfl (decide_eq_false (fun h => h him)) ?_
            exact Qf rfl rfl (QK rfl rfl (WpL.nil ⟨rfl, rfl, rfl, by exact Ent.refl _⟩))
           refine AllF.cons rfl rfl rfl rfl ?_ ?_
           ·refine Qv (dj := 152) rfl (decide_eq_false (fun h => h him)) ?_
            exact Qf rfl rfl (Xp rfl rfl rfl (Ql rfl))
           refine AllF.cons rfl rfl rfl rfl ?_ ?_
           ·refine Qv (dj := 152) rfl (decide_eq_false (fun h => h him)) ?_
            exact Qu rfl rfl rfl (Ql rfl)
           refine AllF.cons rfl rfl rfl rfl ?_ ?_
           ·exact Qc rfl rfl (Ql rfl)
           refine AllF.cons rfl rfl rfl rfl ?_ ?_
           ·refine Qv (dj := 158) rfl (decide_eq_false (fun h => h rfl)) ?_
            exact Qf rfl rfl (Qc rfl rfl (Ql rfl))
           exact AllF.nil
          ·refine Qv (dj := 158) rfl (decide_eq_false (fun h => h rfl)) ?_
           refine Qf rfl rfl (Qj rfl rfl (by repeat' constructor) (psEnd_rep gP a' b' d' _ _ (by omega) hI1) ?_)
           rintro _ _ rfl
           simp only [Qw]
           rw [psEnd_dead hdd]
           refine WpL.exs (Take1.there Take1.here) fun pv => ?_
           refine WpL.pur Take1.here fun hv => ?_
           obtain ⟨aE, cE, aR, cR⟩ := pv
           dsimp only at hv
           subst hv
           refine WpL.nil ⟨rfl, rfl, ?_⟩
           apply GoR.nil [⟨41, 161, _, [38, 40], false⟩, ⟨42, 162, _, [38, 41], false⟩, ⟨43, 163, _, [38, 42], false⟩] (.inr rfl) rfl rfl
           ·refine AllF.cons rfl rfl rfl rfl ?_ ?_
            ·refine Qv (dj := 158) rfl (decide_eq_false (fun h => h rfl)) ?_
             exact Qf rfl rfl (QK rfl rfl (WpL.nil ⟨rfl, rfl, rfl, by exact Ent.refl _⟩))
            refine AllF.cons rfl rfl rfl rfl ?_ ?_
            ·refine Qv (dj := 158) rfl (decide_eq_false (fun h => h rfl)) ?_
             exact Qf rfl rfl (Xp rfl rfl rfl (Ql rfl))
            refine AllF.cons rfl rfl rfl rfl ?_ ?_
            ·refine Qv (dj := 158) rfl (decide_eq_false (fun h => h rfl)) ?_
             exact Qu rfl rfl rfl (Ql rfl)
            exact AllF.nil
           ·refine QB rfl (fun h => h rfl) ?_
            refine Wp.skip (Qa (Qc rfl rfl (Qx rfl rfl rfl (Qp (by omega) (by omega)) ?_)))
            refine Qd rfl rfl (WpL.nil (Qq (i + 1) ?_ ?_ (by ((repeat (first | exact Top.refl | refine Top.push rfl ?_)); done)) (by repeat (first | exact FrLe.nil | refine FrLe.cons rfl ?_)) ?_))
            ·omega
            ·omega
            ·exact Take.ent' (by repeat' constructor)
  ·refine QT (Qb (Qa (Qj rfl rfl (by repeat' constructor) (llives_spec) ?_)))
   rintro _ _ ⟨rfl, rfl⟩
   simp only [Qw]
   refine Qd rfl rfl (WpL.nil (Qg ?_))
   apply RetQ.mk
   ·exact (Res.one rfl rfl)
   ·exact ⟨rfl, rfl⟩
   ·exact Ent.trans (Take.ent' (pre := [B]) (by repeat' constructor)) hBA

end Go.Proofs.YtggamdlpiejbiaaGreat
