/- Walks and plain laws, a part of the proof of ImageWrites: every input that the law's guards let in, no condition beside. -/
import Derived.Test.YtggamdlpiejbiaaGreatM24
namespace Go.Proofs.YtggamdlpiejbiaaGreat
open Go.RowKit Go.Shelf

theorem sEqual_spec (As : List HP) (a b : Option Addr) (ca cb : Nat) (xs ys : List Int) (hx : RdsL As a (XA xs)) (hy : RdsL As b (XA ys)) (hl : xs.length ≤ 9223372036854775807) : Fn Tryz.prog 148 #[.slice a xs.length ca, .slice b ys.length cb] As (fun v l => v = .bool (decide (xs = ys)) ∧ l = As) := by
 refine Ql (vs := [.slice a xs.length ca, .slice b ys.length cb]) Tryz.func148 rfl Tryz.ntmps148 rfl (Qb (Qa (Qe rfl rfl (WpL.nil (Qb (Qb (Qa (Qc rfl rfl (QH rfl rfl (Qc rfl rfl (QH rfl rfl (Xc rfl rfl rfl ?_))))))))))))
 refine WpL.nil (Qk rfl (fun h0 => ?_) (fun h0 => ?_))
 ·refine Qb (Qa (Qe rfl rfl (WpL.nil (Qi ?_))))
  apply RetQ.mk
  ·exact (Res.one rfl rfl)
  ·exact ⟨congrArg Value.bool (df fun e => h0 (by rw [e])), rfl⟩
  ·exact Ent.refl _
 ·have hlen : xs.length = ys.length := by omega
  refine Wp.skip (Qb (Qb (Qa (Qc rfl rfl (QH rfl rfl (Qc rfl rfl (WpL.nil (Wp.block ?_))))))))
  refine Wp.loopD (σ := Nat) (fun k => k ≤ xs.length ∧ xs.take k = ys.take k) [4, 5, 13, 14, 15, 16, 17, 18, 19, 20, 21, 22, 23, 24, 25] (fun k => [(13, .int .i64 (k : Int)), (12, .int .i64 (xs.length : Int))]) (fun _ => _) (fun k => xs.length - k) 0 ?_ (by repeat (first | exact FrLe.nil | refine FrLe.cons rfl ?_)) (Ent.refl _) ?_
  ·exact ⟨Nat.zero_le _, rfl⟩
  ·rintro k ⟨hk, htk⟩
   refine Qb (Qa (Q4 rfl rfl rfl (WpL.nil (Qb (Qk rfl (fun h2 => ?_) (fun h2 => ?_))))))
   ·have hkx : k < xs.length := by omega
    have hky : k < ys.length := by omega
    refine Wp.skip (Qb (Wp.block ?_))
    refine Qb (Qa (Qc rfl rfl (Qe rfl rfl (WpL.nil (Qb ?_)))))
    apply QU mixed [⟨16, _, []⟩, ⟨17, _, []⟩, ⟨18, _, [0, 1]⟩, ⟨19, _, [2]⟩, ⟨20, _, []⟩, ⟨21, _, []⟩, ⟨22, _, [4, 5]⟩, ⟨23, _, [6]⟩, ⟨24, _, [3, 7]⟩] rfl
    ·refine AllObs.mk ?_ ?_
     ·exact Qc rfl rfl (Qn rfl)
     refine AllObs.mk ?_ ?_
     ·exact Qc rfl rfl (Qn rfl)
     refine AllObs.mk ?_ ?_
     ·refine Q2 k rfl rfl rfl hx (Ent.refl _) rfl (by omega) (by rw [XI]; exact hkx) ?_
      exact Qn rfl
     refine AllObs.mk ?_ ?_
     ·refine Q8 rfl rfl hx (Ent.refl _) (Yh xs hkx) ?_
      exact Qn rfl
     refine AllObs.mk ?_ ?_
     ·exact Qc rfl rfl (Qn rfl)
     refine AllObs.mk ?_ ?_
     ·exact Qc rfl rfl (Qn rfl)
     refine AllObs.mk ?_ ?_
     ·refine Q2 k rfl rfl rfl hy (Ent.refl _) rfl hky (by rw [XI]; exact hky) ?_
      exact Qn rfl
     refine AllObs.mk ?_ ?_
     ·refine Q8 rfl rfl hy (Ent.refl _) (Yh ys hky) ?_
      exact Qn rfl
     refine AllObs.mk ?_ ?_
     ·exact Xc rfl rfl rfl (Qn rfl)
     exact AllObs.nil
    ·refine Qk rfl (fun h3 => ?_) (fun h3 => ?_)
     ·refine Qb (Qa (Qe rfl rfl (WpL.nil (Qi ?_))))
      apply RetQ.mk
      ·exact (Res.one rfl rfl)
      ·exact ⟨congrArg Value.bool (df fun e => h3 (by subst e; rfl)), rfl⟩
      ·exact Ent.refl _
     ·refine Wp.skip (Qa (QE rfl rfl rfl (Qt (by omega) (by omega)) ?_))
      refine Qc rfl rfl (WpL.nil (Qw (k + 1) ?_ ?_ (by exact Top.le (by repeat (first | exact FrLe.nil | refine FrLe.cons rfl ?_))) (by repeat (first | exact FrLe.nil | refine FrLe.cons rfl ?_)) ?_))
      ·refine ⟨by omega, ?_⟩
       rw [List.take_succ_eq_append_getElem hkx, List.take_succ_eq_append_getElem hky, htk, Classical.not_not.1 h3]
      ·omega
      ·exact Ent.refl _
   ·obtain rfl : k = xs.length := by omega
    have hxy : xs = ys := by rw [List.take_length, hlen, List.take_length] at htk; exact htk
    refine QJ (Qb (Qa (Qe rfl rfl (WpL.nil (Qi ?_)))))
    apply RetQ.mk
    ·exact (Res.one rfl rfl)
    ·exact ⟨congrArg Value.bool (dt hxy), rfl⟩
    ·exact Ent.refl _


/-- Two images, the same. -/
def sameB (x y : Img) : Bool := decide ((x.c = y.c ∧ x.m = y.m) ∧ x.w = y.w ∧ x.h = y.h ∧ x.px = y.px)

theorem rcSame_spec (As : List HP) (x y : Img) (a b : Option Addr) (c c2 : Nat) (hx : RdsL As a (XA x.px)) (hy : RdsL As b (XA y.px)) (hl : x.px.length ≤ 9223372036854775807) : Fn Tryz.prog 93 #[.agg #[.int .i64 x.w, .int .i64 x.h, .slice a x.px.length c], .agg #[.int .i64 y.w, .int .i64 y.h, .slice b y.px.length c2]] As (fun v l => v = .bool (decide (x.w = y.w ∧ x.h = y.h ∧ x.px = y.px)) ∧ l = As) := by
 refine Ql (vs := [.agg #[.int .i64 x.w, .int .i64 x.h, .slice a x.px.length c], .agg #[.int .i64 y.w, .int .i64 y.h, .slice b y.px.length c2]]) Tryz.func93 rfl Tryz.ntmps93 rfl (Qb (Qa (QV rfl rfl rfl ?_)))
 intro g1
 refine QV rfl rfl rfl ?_
 intro g2
 refine Qe rfl rfl (WpL.nil (Qb (Qa (Qj (o2 := 0) rfl rfl rfl (Qo rfl rfl (by rfl) ?_)))))
 refine Qj (o2 := 0) rfl rfl rfl (Qo rfl rfl (by rfl) ?_)
 refine QK rfl rfl rfl (Qc rfl rfl (QG rfl rfl rfl (fun hg1 => ?_) (fun hg1 => ?_)))
 ·have hg1 := of_decide_eq_true hg1
  refine Qj (o2 := 1) rfl rfl rfl (Qf rfl rfl (Qo rfl rfl (by rfl) ?_))
  refine Qf rfl rfl (Qj (o2 := 1) rfl rfl rfl (Qf rfl rfl (Qo rfl rfl (by rfl) ?_)))
  refine Qf rfl rfl (QK rfl rfl rfl (Qs rfl rfl rfl (Qc rfl rfl (QG rfl rfl rfl (fun hg2 => ?_) (fun hg2 => ?_)))))
  ·have hg2 := of_decide_eq_true hg2
   refine Qj (o2 := 2) rfl rfl rfl (Qf rfl rfl (Qo rfl rfl (by rfl) ?_))
   refine Qf rfl rfl (Qj (o2 := 2) rfl rfl rfl (Qf rfl rfl (Qo rfl rfl (by rfl) ?_)))
   refine Qf rfl rfl (Qh rfl rfl (Take.skip (Take.skip Take.all)) (sEqual_spec As a b c c2 x.px y.px hx hy hl) ?_)
   rintro _ _ ⟨rfl, rfl⟩
   refine Qs rfl rfl rfl (Qe rfl rfl (WpL.nil (Qi ?_)))
   apply RetQ.mk
   ·exact (Res.one rfl rfl)
   ·exact ⟨congrArg Value.bool (decide_eq_decide.2 ⟨fun q => ⟨by assumption, by assumption, q⟩, fun q => q.2.2⟩), rfl⟩
   ·exact (Take.app rfl).ent'
  ·have hg2 := of_decide_eq_false hg2
   refine Qd rfl rfl rfl (by decide) (Qd rfl rfl rfl (by decide) (Qd rfl rfl rfl (by decide) (Qd rfl rfl rfl (by decide) (Qq rfl rfl rfl (Qe rfl rfl (WpL.nil (Qi ?_)))))))
   apply RetQ.mk
   ·exact (Res.one rfl rfl)
   ·exact ⟨by rw [decide_eq_false (fun q => absurd q.2.1 (by assumption))], rfl⟩
   ·exact Ent.drop (Ent.drop (Ent.refl _))
 ·have hg1 := of_decide_eq_false hg1
  refine Qd rfl rfl rfl (by decide) (Qd rfl rfl rfl (by decide) (Qd rfl rfl rfl (by decide) (Qd rfl rfl rfl (by decide) (Qq rfl rfl rfl (Qc rfl rfl (Qd rfl rfl rfl (by decide) (Qd rfl rfl rfl (by decide) (Qd rfl rfl rfl (by decide) (Qd rfl rfl rfl (by decide) (Qd rfl rfl rfl (by decide) (Qq rfl rfl rfl (Qe rfl rfl ?_))))))))))))
  refine WpL.nil (Qi ?_)
  apply RetQ.mk
  ·exact (Res.one rfl rfl)
  ·exact ⟨by rw [decide_eq_false (fun q => absurd q.1 (by assumption))], rfl⟩
  ·exact Ent.drop (Ent.drop (Ent.refl _))

theorem iSame_spec (As : List HP) (x y : Img) (a b : Option Addr) (c c2 : Nat) (hx : RdsL As a (XA x.px)) (hy : RdsL As b (XA y.px)) (hl : x.px.length ≤ 9223372036854775807) : Fn Tryz.prog 50 #[.agg (mC x a c).toArray, .agg (mC y b c2).toArray] As (fun v l => v = .bool (sameB x y) ∧ l = As) := by
 refine Ql (vs := [.agg (mC x a c).toArray, .agg (mC y b c2).toArray]) Tryz.func50 rfl Tryz.ntmps50 rfl (Qb (Qa (QV rfl rfl rfl ?_)))
 intro g1
 refine QV rfl rfl rfl ?_
 intro g2
 refine Qe rfl rfl (WpL.nil (Qb (Qa (Qj (o2 := 0) rfl rfl rfl ?_))))
 refine QA (vs := [_, _]) rfl rfl rfl (by rfl) ?_
 refine Qj (o2 := 0) rfl rfl rfl ?_
 refine QA (vs := [_, _]) rfl rfl rfl (by rfl) ?_
 refine s_aeq [x.c, x.m] [y.c, y.m] rfl rfl rfl rfl rfl (Qc rfl rfl (QG rfl rfl rfl (fun hg1 => ?_) (fun hg1 => ?_)))
 ·have hg1 := of_decide_eq_true hg1
  refine Qj (o2 := 2) rfl rfl rfl (Qf rfl rfl ?_)
  refine QA (vs := [_, _, _]) rfl rfl rfl (by rfl) ?_
  refine Qf rfl rfl (Qj (o2 := 2) rfl rfl rfl (Qf rfl rfl ?_))
  refine QA (vs := [_, _, _]) rfl rfl rfl (by rfl) ?_
  refine Qf rfl rfl (Qh rfl rfl (Take.skip (Take.skip Take.all)) (rcSame_spec As x y a b c c2 hx hy hl) ?_)
  rintro _ _ ⟨rfl, rfl⟩
  refine Qs rfl rfl rfl (Qe rfl rfl (WpL.nil (Qi ?_)))
  apply RetQ.mk
  ·exact (Res.one rfl rfl)
  ·exact ⟨congrArg Value.bool (decide_eq_decide.2 ⟨fun q => ⟨by simpa using (by assumption : [x.c, x.m] = [y.c, y.m]), q⟩, fun q => q.2⟩), rfl⟩
  ·exact (Take.app rfl).ent'
 ·have hg1 := of_decide_eq_false hg1
  refine Qd rfl rfl rfl (by decide) (Qd rfl rfl rfl (by decide) (Qd rfl rfl rfl (by decide) (Qd rfl rfl rfl (by decide) (Qq rfl rfl rfl (Qe rfl rfl (WpL.nil (Qi ?_)))))))
  apply RetQ.mk
  ·exact (Res.one rfl rfl)
  ·exact ⟨by unfold sameB; rw [decide_eq_false (fun q => absurd (show [x.c, x.m] = [y.c, y.m] by rw [q.1.1, q.1.2]) (by assumption))], rfl⟩
  ·exact Ent.drop (Ent.drop (Ent.refl _))

end Go.Proofs.YtggamdlpiejbiaaGreat
namespace Go.Proofs.YtggamdlpiejbiaaGreat
open Go.RowKit Go.Shelf

theorem ZM (x : Img) (a : Option Addr) (c : Nat) : Fn Tryz.prog 46 #[.agg (mC x a c).toArray] [] (fun v l => v = .agg (mC x a c).toArray ∧ l = []) := by
 refine Ql (vs := [.agg (mC x a c).toArray]) Tryz.func46 rfl Tryz.ntmps46 rfl (Qb (Qa (QV rfl rfl rfl ?_)))
 intro g1
 refine XY rfl ?_
 intro g2
 refine WpL.nil (Qb (Qa (Qj (o2 := 0) rfl rfl rfl ?_)))
 refine QA (vs := [_, _]) rfl rfl rfl (by rfl) ?_
 refine Qj (o2 := 2) rfl rfl rfl (Qj (o2 := 2) rfl rfl rfl (Qo rfl rfl (by rfl) ?_))
 refine Qj (o2 := 2) rfl rfl rfl (Qj (o2 := 3) rfl rfl rfl (Qo rfl rfl (by rfl) ?_))
 refine Qj (o2 := 2) rfl rfl rfl (Qj (o2 := 4) rfl rfl rfl (Qo rfl rfl (by rfl) ?_))
 refine Ym rfl rfl ?_
 refine Ym rfl rfl ?_
 refine Xb rfl rfl rfl (by rfl) rfl ?_
 refine WpL.nil (Qi ?_)
 apply RetQ.mk
 ·exact (Xw rfl rfl (by rfl))
 ·exact ⟨rfl, rfl⟩
 ·exact Ent.nil _


theorem good_tk {m : Img} {k : Int} (hT : k ∈ QN m.c m.m ∧ XM m.c m.m m.w m.h m.px) (hw : m.w ≤ 100) (hh : m.h ≤ 100) (hb : ∀ p ∈ m.px, 0 ≤ p ∧ p < 18446744073709551616) : GoodI 100 m := by
  obtain ⟨hf, _, _, _⟩ := ZK hT.1
  obtain ⟨_, hs, hl, hp⟩ := hT
  unfold Xr at hs
  unfold Yt at hf
  exact ⟨by omega, by omega, by omega, by omega, hl, fun p hpp => ⟨fit_canU (hb p hpp).1 (hp p hpp) (by omega), hb p hpp⟩⟩
theorem self_same (x : Img) : sameB x x = true := decide_eq_true ⟨⟨rfl, rfl⟩, rfl, rfl, rfl⟩
theorem iHead_yes (As : List HP) (C M W H : Int) (a : Option Addr) (c : Nat) (px : List Int) (hA : RdsL As a (XA px)) (hb : ∀ p ∈ px, 0 ≤ p ∧ p < 18446744073709551616) (hl : px.length ≤ 9223372036854775807) (k : Int) (hT : k ∈ QN C M ∧ XM C M W H px) :
    Fn Tryz.prog 49 #[.agg #[.int .i64 C, .int .i64 M, .int .i64 W, .int .i64 H, .slice a px.length c], .int .i64 k] As (fun v l => v = .tuple #[.agg #[.int .i64 k, .int .i64 W, .int .i64 H, .int .i64 M], .int .i64 0] ∧ l = As) := by
  refine (iHead_spec As C M W H a c px hA hb hl k).mono ?_
  rintro v l ⟨q | q, rfl⟩
  · exact ⟨_, ⟨q.2, rfl⟩, Ent.refl _⟩
  · exact absurd hT q.1
theorem iHead_no (As : List HP) (C M W H : Int) (a : Option Addr) (c : Nat) (px : List Int) (hA : RdsL As a (XA px)) (hb : ∀ p ∈ px, 0 ≤ p ∧ p < 18446744073709551616) (hl : px.length ≤ 9223372036854775807) (k : Int) (hT : ¬ (k ∈ QN C M ∧ XM C M W H px)) :
    Fn Tryz.prog 49 #[.agg #[.int .i64 C, .int .i64 M, .int .i64 W, .int .i64 H, .slice a px.length c], .int .i64 k] As (fun v l => v = .tuple #[.agg #[.int .i64 0, .int .i64 0, .int .i64 0, .int .i64 0], .int .i64 1] ∧ l = As) := by
  refine (iHead_spec As C M W H a c px hA hb hl k).mono ?_
  rintro v l ⟨q | q, rfl⟩
  · exact absurd q.1 hT
  · exact ⟨_, ⟨q.2, rfl⟩, Ent.refl _⟩

theorem rWrite10n_spec (A0 : HP) (C M W H : Int) (a : Option Addr) (c : Nat) (px : List Int) (hA : RdsL [A0] a (XA px)) (hb : ∀ p ∈ px, 0 ≤ p ∧ p < 18446744073709551616) (hl : px.length ≤ 9223372036854775807) (k : Int) (hT : ¬ (k ∈ QN C M ∧ XM C M W H px)) : Fn Tryz.prog 34 #[.agg #[.int .i64 C, .int .i64 M, .int .i64 W, .int .i64 H, .slice a px.length c], .int .i64 k] [A0] (fun v l => v = .tuple #[.slice none 0 0, .int .i64 1] ∧ l = [A0]) := by
 refine Ql (vs := [.agg #[.int .i64 C, .int .i64 M, .int .i64 W, .int .i64 H, .slice a px.length c], .int .i64 k]) Tryz.func34 rfl Tryz.ntmps34 rfl (Qb (Qa (QV rfl rfl rfl ?_)))
 intro g1
 refine Qe rfl rfl (Qe rfl rfl (WpL.nil (Qb (Qa ?_))))
 refine QA (vs := [_, _, _, _, _]) rfl rfl rfl (by rfl) ?_
 refine Qc rfl rfl (Qh rfl rfl (by repeat' constructor) (rTells_spec [A0] C M W H a c px hA hb (by omega) k) ?_)
 rintro _ _ ⟨rfl, rfl⟩
 simp only [Qr]
 rw [decide_eq_false hT]
 refine Qe rfl rfl (WpL.nil (Qb (Qb (Qa (Qc rfl rfl (Y9 rfl rfl (WpL.nil (Xa rfl (Qb (Qa (Qe rfl rfl (Qe rfl rfl ?_))))))))))))
 refine WpL.nil (Qi ?_)
 apply RetQ.mk
 ·exact (QC rfl rfl rfl)
 ·exact ⟨rfl, rfl⟩
 ·exact Take.ent' (by repeat' constructor)

end Go.Proofs.YtggamdlpiejbiaaGreat
namespace Go.Proofs.YtggamdlpiejbiaaGreat
open Go.RowKit Go.Shelf


section
variable {P : Program} {n : Cx} {D : List Deferred} {Q : Post} {fr : Fr} {l : List HP}
def cutSK (D : List Deferred) (t : Nat) (v : Value) (ds : List Nat) (fr : Fr) (l : List HP) : List Deferred → Fr → List HP → Prop := fun D' fr' l' => D' = D ∧ Top ds fr fr' ∧ lk fr' t = some v ∧ Ent l' l
theorem cutS_end {t : Nat} {v : Value} {ds : List Nat} {fr0 : Fr} {l0 : List HP} (ht : Top ds fr0 fr) (hv : lk fr t = some v) (he : Ent l l0) : thn (cutSK D t v ds fr0 l0) Q .normal D fr l := ⟨rfl, ht, hv, he⟩
/-- Ways that meet again: of the slots ds only t is known then. -/
theorem Wp.cutS {x y : Code} (t : Nat) (v : Value) (ds : List Nat) (h : Wp P n D x (thn (cutSK D t v ds fr l) Q) fr l) (k : Wp P n D y Q ((t, v) :: Yd ds fr) l) : Wp P n D (.seq x y) Q fr l := by
  refine Qb (h.mono fun e D' fr' l' q => ?_)
  cases e with
  | normal =>
    obtain ⟨rfl, ht, hv, he⟩ := q
    intro a w U hh hs
    refine k a w U ⟨hh.1, hh.2.1, fun t' v' h' => hh.2.2 t' v' ?_⟩ (he w U hs)
    rcases lk_append (gr := [(t, v)]) h' with h' | h'
    · unfold lk at h'
      cases e : Nat.beq t t' with
      | true =>
        rw [e] at h'
        rw [← Nat.eq_of_beq_eq_true e, hv]; exact h'
      | false =>
        rw [e] at h'
        exact absurd h' (by simp [lk])
    · obtain ⟨h1, h2⟩ := Yq h'
      exact ht.lk h1 h2
  | _ => exact q
end

section
variable {P : Program} {n : Cx} {D : List Deferred} {ops : Array Oper} {rest : List Oper} {Q : Post} {fr : Fr} {l : List HP} {ty : Nat} {pos : String} {aft : Array Edge}
theorem s_appCc {d t e by_ : Nat} {z : Value} {x y : Operand} {a2 : Option Addr} {g c m c2 m2 : Nat} {xs ys : List Value} {As F : List HP} (hd : Nat.blt d n = true) [ht : SlT P t e 1 by_ z] (hx : ev fr x = some (.slice (some ⟨g, 0, none⟩) m c)) (hy : ev fr y = some (.slice a2 m2 c2))
    (htk : Take l [cvR e g c xs] F) (hA : RdsL As a2 ys) (he : Ent F As) (hlx : xs.length = m) (hl : ys.length = m2) (hz : z.cells.size = 1) (h1 : ∀ u ∈ ys, u.oneCell' = true) (hb : (m + m2) * by_ ≤ 140737488355328) (hm : m + m2 ≤ 140737488355328)
    (k : ∀ g' c', m + m2 ≤ c' → WpL P n D ops rest Q ((d, .slice (some ⟨g', 0, none⟩) (m + m2) c') :: fr) (rdo g' (xs ++ ys) :: F)) : WpL P n D ops (⟨some d, .call ⟨.builtin .append, #[x, y], #[t, t]⟩, ty, pos, aft, none⟩ :: rest) Q fr l := by
  refine XC (σ := {p : Nat × Nat // m + m2 ≤ p.2}) hd (fun p => .slice (some ⟨p.1.1, 0, none⟩) (m + m2) p.1.2) (fun p => rdo p.1.1 (xs ++ ys) :: F) (fun A w U hh hs' => ?_) (fun p => k p.1.1 p.1.2 p.2)
  have h2 := htk.ent w U hs'
  obtain ⟨S, hp, hSU, hF⟩ := id h2
  obtain ⟨hS, cur, hg, hc, hlc, htake⟩ := id hp
  obtain ⟨i0, hi, hz0, hz1, hz2⟩ := info_parts ht.hi
  have hRA := hA w _ (he w _ hF)
  have hgl : g < w.heap.size := (Array.getElem?_eq_some_iff.1 hg).1
  cases a2 with
  | none =>
    have hy0 : ys = [] := by
      cases ys with
      | nil => rfl
      | cons q qs => exact absurd (hRA.1 (by simp)) (by simp)
    subst hy0
    have hm0 : m2 = 0 := hl.symm
    subst hm0
    refine ⟨⟨(g, c), by simp only; omega⟩, w, ?_, ⟨⟨S, ⟨hS, hgl, fun j u hu => YP hp j u (by simpa using hu)⟩, fun b hb => .inl (hSU b hb), hF.mono fun b hb => ⟨.inl hb.1, hb.2⟩⟩, .refl _ _⟩⟩
    have hle : m ≤ c := by omega
    simp [execOp, resolve, invoke, builtin, hh.ev hx, hh.ev hy, Builtin.append_, run_underlying ht.hu, sizeOf, typeInfo, hi, Builtin.lenOf, hle, Builtin.firstCells, storeCells]
  | some ad =>
    have hnew : ∀ j u, ys[j]? = some u → w.cell? (ad.add j) = some u := fun j u hu => hRA.2 ad rfl j u hu
    by_cases hroom : m + m2 ≤ c
    · have hcell : ∀ j, j < ys.length → (w.cell? ⟨g, 0 + m * i0.size + j, none⟩).isSome = true := fun j hj => by
        rw [cell_of_row w g _ cur e _ hg, hz1]
        simp; omega
      have hfr : ∀ j, j < ys.length → w.frozen? ⟨g, 0 + m * i0.size + j, none⟩ = false := fun j hj => by
        unfold World.frozen?
        simp only [hg, hz1]
        simp; omega
      have hr := run_append_room_cells (P := P) w t ty e i0 ht.hu hi g 0 m c ad m2 c2 ys (by rw [hz1, hl]; omega) hnew h1 hroom hcell hfr
      have hch := Z6 g ys (0 + m * i0.size) w
      have hm1 : 0 + m * i0.size = m := by rw [hz1]; omega
      rw [hm1] at hr hch hcell
      refine ⟨⟨(g, c), hroom⟩, w.setCells g m ys, by simp [execOp, resolve, invoke, builtin, hh.ev hx, hh.ev hy, hr], ⟨S, ⟨hS, by rw [hch.2.2.2.1]; exact hgl, fun j u hu => ?_⟩, fun b hb => .inl (hSU b hb), ?_⟩, ⟨hch.1, hch.2.1, hch.2.2.1, by rw [hch.2.2.2.1]; exact Nat.le_refl _, fun b _ hnb => hch.2.2.2.2 b fun e => hnb (hSU b ((hS b).2 e))⟩⟩
      · by_cases hj : j < xs.length
        · rw [World.cell?_setCells_out g ys m w ⟨g, j, none⟩ (fun _ _ => .inl (by simp only; omega))]
          rw [List.getElem?_append_left hj] at hu
          exact YP hp j u hu
        · rw [List.getElem?_append_right (by omega)] at hu
          obtain ⟨hj2, hu2⟩ := List.getElem?_eq_some_iff.1 hu
          have := World.cell?_setCells_in g ys m w hcell (j - xs.length) hj2
          rw [show m + (j - xs.length) = j by omega, hu2] at this
          exact this
      · have hk : Sat (w.setCells g m ys) F (fun b => (U b ∧ ¬ S b) ∧ b < w.heap.size) := hF.inside.keep (by rw [hch.2.2.2.1]; exact Nat.le_refl _) fun b hb _ => hch.2.2.2.2 b fun e => hb.1.2 ((hS b).2 e)
        exact hk.mono fun b hb => ⟨.inl hb.1.1, hb.1.2⟩
    · obtain ⟨v', w', hr, hown, hgrown⟩ := run_append_arg_grows (P := P) w t ty e i0 z 1 by_ ht.hu hi hz0 hz1 hz2 hz (by decide) ⟨g, 0, none⟩ m c xs (by omega) (fun j u hu => by rw [Zt, Nat.zero_add]; exact YP hp j u hu) ad m2 c2 ys (by omega) hnew (by omega) (by unfold maxLen; omega) hb
      rcases hown.2 with ⟨_, h0⟩ | ⟨g', cap, cur', rfl, hg0, hg', hcap, hmx, hcs, htk'⟩
      · omega
      · have hblk : ∀ b, b < w.heap.size → w'.heap[b]? = w.heap[b]? := fun b hb => hgrown.block b hb (by simp)
        refine ⟨⟨(g', cap), by simp only; omega⟩, w', by simp [execOp, resolve, invoke, builtin, hh.ev hx, hh.ev hy, hr], ⟨fun b => b = g', ⟨fun _ => Iff.rfl, (Array.getElem?_eq_some_iff.1 hg').1, fun j u hu => ?_⟩, fun b hb => .inr (by rw [hb]; exact hg0), ?_⟩, ⟨hgrown.os, hgrown.tape, hgrown.output, hgrown.size, fun b hb _ => hblk b hb⟩⟩
        · rw [cell_of_row w' g' j cur' e _ hg']
          rw [← htk', List.getElem?_take] at hu
          split at hu
          · simpa using hu
          · cases hu
        · have hk : Sat w' F (fun b => (U b ∧ ¬ S b) ∧ b < w.heap.size) := hF.inside.keep hgrown.size fun b _ hlt => hblk b hlt
          exact hk.mono fun b hb => ⟨.inl hb.1.1, fun e => by rw [e] at hb; exact absurd hb.2 (Nat.not_lt.2 hg0)⟩

/-- A struct stored into a part of a variable. -/
theorem s_stp {T g : Nat} {x y : Operand} {cs vs cs' : List Value} {T2 kk : Nat} {l' : List HP} (o : Nat) [hT : AggT P T kk] (hx : ev fr x = some (.pointer (some ⟨g, o, none⟩))) (hy : ev fr y = some (.agg vs.toArray)) (hn : vs.length = kk)
    [hb : HasBlk l g cs T2] (hcs : cs.take o ++ vs ++ cs.drop (o + vs.length) = cs') [hsb : SetBlk l g cs' l'] (hc : Nat.ble (o + vs.length) cs.length = true) (h1 : vs.all Value.oneCell' = true) (k : WpL P n D ops rest Q fr l') : WpL P n D ops (⟨none, .store T x y, ty, pos, aft, none⟩ :: rest) Q fr l := by
  refine WpL.skp (m := l') (fun a w U hh hs => ?_) k
  obtain ⟨m, ds, T3, ht, he, _⟩ := hsb.take
  have hs2 := ht.ent w U hs
  have hg1 := hb.sat hs
  refine ⟨w.setRow g cs'.toArray, ?_, (sat_row hs2).ent he⟩
  have hst := run_storeCells_at P g o T2 vs 0 cs.toArray w hg1 (by have := Nat.le_of_ble_eq_true hc; simp; omega) (fun v hv => List.all_eq_true.1 h1 v hv)
  simp only [Nat.add_zero, hcs] at hst
  simp [execOp, hh.ev hx, hh.ev hy, Instr.storeAt, Instr.sureAddr, storeVar, Value.cells, hT.size, hn, hst]

end
set_option maxHeartbeats 1000000 in
theorem iWriteNc_spec (A0 : HP) (C M : Int) (Wn Hn : Nat) (a : Option Addr) (c : Nat) (px : List Int) (hA : RdsL [A0] a (XA px)) (hb : ∀ p ∈ px, 0 ≤ p ∧ p < 18446744073709551616) (hcap : px.length ≤ c) (hpl : px.length ≤ 9223372036854775807) (k : Int) : Fn Tryz.prog 48 #[.agg #[.int .i64 C, .int .i64 M, .int .i64 (Wn : Int), .int .i64 (Hn : Int), .slice a px.length c], .int .i64 k] [A0] (fun v l => (k ∈ QN C M ∧ XM C M (Wn : Int) (Hn : Int) px ∧ ∃ g c2, (ZT ⟨C, M, (Wn : Int), (Hn : Int), px⟩ k).length ≤ c2 ∧ v = .tuple #[.slice (some ⟨g, 0, none⟩) (ZT ⟨C, M, (Wn : Int), (Hn : Int), px⟩ k).length c2, .int .i64 0] ∧ l = [rdo g (Xh (ZT ⟨C, M, (Wn : Int), (Hn : Int), px⟩ k)), A0]) ∨ (¬ (k ∈ QN C M ∧ XM C M (Wn : Int) (Hn : Int) px) ∧ v = .tuple #[.slice none 0 0, .int .i64 1] ∧ l = [A0])) := by
 refine Ql (vs := [.agg #[.int .i64 C, .int .i64 M, .int .i64 (Wn : Int), .int .i64 (Hn : Int), .slice a px.length c], .int .i64 k]) Tryz.func48 rfl Tryz.ntmps48 rfl (Qb (Qa (QV rfl rfl rfl ?_)))
 intro gI
 refine Qe rfl rfl (Qe rfl rfl (WpL.nil (Qb (Qa ?_))))
 refine QA (vs := [_, _, _, _, _]) rfl rfl rfl (by rfl) ?_
 refine Qc rfl rfl (Qh rfl rfl (by repeat' constructor) (iHead_alt [A0] C M (Wn : Int) (Hn : Int) a c px hA hb hpl k) ?_)
 intro v0 m0 hN0
 rcases hN0 with ⟨hT, rfl, rfl⟩ | ⟨hT, rfl, rfl⟩
 ·simp only [Qr]
  obtain ⟨hMay, hfit, hpl2, hp16⟩ := tk_may hT
  have hM2 := hMay
  unfold Xt at hM2
  refine Qc rfl rfl (QD rfl rfl rfl (QD rfl rfl rfl (XY rfl ?_)))
  intro gH
  refine Xb rfl rfl rfl (by rfl) rfl ?_
  refine Qe rfl rfl (WpL.nil (Qb (Qb (Qa (Qc rfl rfl (Xc rfl rfl rfl (WpL.nil (Qz rfl (fun h => h rfl) ?_))))))))
  refine Wp.skip (Qb (Qa ?_))
  refine QA (vs := [_, _, _, _]) rfl rfl rfl (by rfl) ?_
  refine Qh rfl rfl (by repeat' constructor) (hWrite_spec _ _ _ _ hMay) ?_
  rintro _ _ ⟨s6, hs6, rfl, rfl⟩
  simp only [Qr]
  have hz6 := hdW_lenH hMay
  have hs6z : s6.size ≤ 400000 := by rw [← Xj, hs6]; exact hz6
  refine Qc rfl rfl (QD rfl rfl rfl (QD rfl rfl rfl (Qe rfl rfl (Qe rfl rfl (WpL.nil (Qb (Qa (s_mkf rfl (fun a hh => XR hh _ _ rfl) ?_))))))))
  refine Qe rfl rfl (WpL.nil (Qb (Qb (Qa ?_))))
  refine QA (vs := [_, _, _, _]) rfl rfl rfl (by rfl) ?_
  refine Qh rfl rfl (by repeat' constructor) (YX _ _ _ _) ?_
  rintro _ _ ⟨rfl, rfl⟩
  simp only [Qr]
  refine WpL.nil (Qk rfl (fun h1 => ?_) (fun h1 => ?_))
  ·refine Qa (s_mkf rfl (fun a hh => XR hh _ _ rfl) ?_)
   refine Qe rfl rfl (WpL.nil (Qb (Qa (Qc rfl rfl (s_t2bc rfl Tryz.underlying9 Tryz.underlying22 Tryz.underlying5 rfl ?_)))))
   intro g30 c30
   rw [hs6]
   refine Qc rfl rfl (XT (u := []) (c := [.pointer (some ⟨gI, 0, none⟩), .pointer (some ⟨gH, 0, none⟩)]) rfl rfl rfl rfl (by repeat' constructor) (iWrR_spec A0 gI gH C M k Wn Hn a c px hA hb hcap hT (by omega)) ?_)
   rintro _ _ ⟨a9, c9, rfl, hz9, rfl⟩
   simp only [Qr]
   (refine s_appCc rfl rfl rfl (by repeat' constructor) (QR (T := 5) (s := 1) (c := c9) (m := (Q5 k Wn (Qg M) px Hn).length)) (by exact Take.ent' (by repeat' constructor)) (QY _) (QY _) (by rfl) (YW _) (by omega) (by omega) ?_; intro g33 c33 hc33; rw [Vc]; rw [← List.length_append, show hdW k (Wn : Int) (Hn : Int) M ++ (Q5 k Wn (Qg M) px Hn) = (ZT ⟨C, M, (Wn : Int), (Hn : Int), px⟩ k) from (by unfold ZT; rw [if_neg (by omega)]; rfl)] at *)
   refine Qe rfl rfl (Qe rfl rfl (WpL.nil (Qi ?_)))
   apply RetQ.mk
   ·exact (QC rfl rfl rfl)
   ·exact .inl ⟨hT.1, hT.2, g33, c33, hc33, rfl, rfl⟩
   ·exact Take.ent' (by repeat' constructor)
  ·refine Wp.skip (Qb (Qa (Qc rfl rfl (s_t2bc rfl Tryz.underlying9 Tryz.underlying22 Tryz.underlying5 rfl ?_))))
   intro g30 c30
   rw [hs6]
   refine Qc rfl rfl (XT (u := []) (c := [.pointer (some ⟨gI, 0, none⟩), .pointer (some ⟨gH, 0, none⟩)]) rfl rfl rfl rfl (by repeat' constructor) (iWrP_spec A0 gI gH C M k Wn Hn a c px hA hb hcap hT (by omega)) ?_)
   rintro _ _ ⟨gB, cB, rfl, rfl⟩
   simp only [Qr]
   (have hz8 := wrL_lenB hT (by omega); refine s_appCc rfl rfl rfl (by repeat' constructor) (RdsL.rdo (g := gB) (xs := Xh (Y8 k (Wn : Int) 0 px))) (by exact Take.ent' (by repeat' constructor)) (QY _) (QY _) (by rfl) (YW _) (by omega) (by omega) ?_; intro g33 c33 hc33; rw [Vc]; rw [← List.length_append, show hdW k (Wn : Int) (Hn : Int) M ++ (Y8 k (Wn : Int) 0 px) = (ZT ⟨C, M, (Wn : Int), (Hn : Int), px⟩ k) from (by unfold ZT; rw [if_pos (by omega)])] at *)
   refine Qe rfl rfl (Qe rfl rfl (WpL.nil (Qi ?_)))
   apply RetQ.mk
   ·exact (QC rfl rfl rfl)
   ·exact .inl ⟨hT.1, hT.2, g33, c33, hc33, rfl, rfl⟩
   ·exact Take.ent' (by repeat' constructor)
 ·simp only [Qr]
  refine Qc rfl rfl (QD rfl rfl rfl (QD rfl rfl rfl (XY rfl ?_)))
  intro gH
  refine Xb rfl rfl rfl (by rfl) rfl ?_
  refine Qe rfl rfl (WpL.nil (Qb (Qb (Qa (Qc rfl rfl (Xc rfl rfl rfl (WpL.nil (QM rfl (by decide) (Qb (Qa (Qc rfl rfl (Qe rfl rfl ?_))))))))))))
  refine Qe rfl rfl (WpL.nil (Qi ?_))
  apply RetQ.mk
  ·exact (QC rfl rfl rfl)
  ·exact .inr ⟨hT, rfl, rfl⟩
  ·exact Take.ent' (by repeat' constructor)


/-- An image's bytes, by the program, of whatever image. -/
theorem iWriteX_spec (A0 : HP) (x : Img) (hw : 0 ≤ x.w) (hh : 0 ≤ x.h) (a : Option Addr) (c : Nat) (hA : RdsL [A0] a (XA x.px)) (hb : ∀ p ∈ x.px, 0 ≤ p ∧ p < 18446744073709551616) (hcap : x.px.length ≤ c) (hpl : x.px.length ≤ 9223372036854775807) (k : Int) :
    Fn Tryz.prog 48 #[.agg (mC x a c).toArray, .int .i64 k] [A0] (fun v l => ((k ∈ QN x.c x.m ∧ XM x.c x.m x.w x.h x.px) ∧ ∃ g c2, (ZT x k).length ≤ c2 ∧ v = .tuple #[.slice (some ⟨g, 0, none⟩) (ZT x k).length c2, .int .i64 0] ∧ l = [rdo g (Xh (ZT x k)), A0]) ∨ (¬ (k ∈ QN x.c x.m ∧ XM x.c x.m x.w x.h x.px) ∧ v = .tuple #[.slice none 0 0, .int .i64 1] ∧ l = [A0])) := by
  obtain ⟨C, M, w, h, px⟩ := x
  dsimp only at hw hh hA hb hcap hpl ⊢
  obtain ⟨Wn, rfl⟩ := Int.eq_ofNat_of_zero_le hw
  obtain ⟨Hn, rfl⟩ := Int.eq_ofNat_of_zero_le hh
  refine (iWriteNc_spec A0 C M Wn Hn a c px hA hb hcap hpl k).mono ?_
  rintro v l (⟨q1, q2, q3⟩ | q)
  · exact ⟨_, .inl ⟨⟨q1, q2⟩, q3⟩, Ent.refl _⟩
  · exact ⟨_, .inr q, Ent.refl _⟩

end Go.Proofs.YtggamdlpiejbiaaGreat
namespace Go.Proofs.YtggamdlpiejbiaaGreat
open Go.RowKit Go.Shelf


theorem kind_ex (k : Nat) (kd : Int) : ∃ n : Int, ((k : Int) = 7 → n = kd) ∧ (¬ (k : Int) = 7 → n = (k : Int)) := by
  by_cases h : (k : Int) = 7
  · exact ⟨kd, fun _ => rfl, fun q => absurd h q⟩
  · exact ⟨k, fun q => absurd q h, fun _ => rfl⟩

set_option maxHeartbeats 2000000 in
theorem lWrites_spec (A0 : HP) (g : GS) (hg1 : ∀ x ∈ g.zs, -9223372036854775808 ≤ x ∧ x < 9223372036854775808) (hg2 : g.zs.length ≤ 9223372036854775807) (hg3 : RdsL [A0] g.a (QZ g.zs)) (hg4 : -9223372036854775808 ≤ g.mx ∧ g.mx < 9223372036854775808) (hg5 : -9223372036854775808 ≤ g.w ∧ g.w < 9223372036854775808) (hg6 : -9223372036854775808 ≤ g.h ∧ g.h < 9223372036854775808) (kd at_ px1 : Int) (hkd : -9223372036854775808 ≤ kd ∧ kd < 9223372036854775808) (hat : -9223372036854775808 ≤ at_ ∧ at_ < 9223372036854775808) (hp1 : 0 ≤ px1 ∧ px1 < 18446744073709551616) : Fn Tryz.prog 11 #[.agg (gC g).toArray, .int .i64 kd, .int .i64 at_, .int .u64 px1] [A0] (fun v l => v = .bool true ∧ l = [A0]) := by
 refine Ql (vs := [.agg (gC g).toArray, .int .i64 kd, .int .i64 at_, .int .u64 px1]) Tryz.func11 rfl Tryz.ntmps11 rfl (Qb (Qa (QV rfl rfl rfl ?_)))
 intro gG
 refine Qe rfl rfl (WpL.nil (Qb (Qa ?_)))
 refine QA (vs := [_, _, _, _, _]) rfl rfl rfl (by rfl) ?_
 refine Qh rfl rfl (by repeat' constructor) (rGood10_spec A0 g.three g.mx g.w g.h g.a g.c g.zs hg1 hg2 hg3 hg4 hg5 hg6 9 (by omega)) ?_
 rintro _ _ ⟨m, a1, c1, hgd, rfl, rfl⟩
 simp only [Qr]
 obtain ⟨_, hpl⟩ := good_sz (by omega) hgd
 obtain ⟨hgc, hgm, hgw, hgh, hgl, hgp⟩ := id hgd
 have hpos : 0 < m.w * m.h := Int.mul_pos (by omega) (by omega)
 have hap := Yu (x := at_) (m := (m.px.length : Int)) (by omega)
 obtain ⟨ka, hka⟩ := Int.eq_ofNat_of_zero_le hap.1
 have hkl2 : ka < m.px.length := by omega
 refine Zi (T := 92) (s := 1) (a := a1) (c := c1) (by repeat' constructor) (fun hca => ?_)
 refine XY rfl ?_
 intro gM
 refine Xb rfl rfl rfl (by rfl) rfl ?_
 refine WpL.nil (Qb (Qa (XY rfl ?_)))
 intro gO
 refine WpL.nil (Qb (Qa (Qj (o2 := 0) rfl rfl rfl ?_)))
 refine QA (vs := [_, _]) rfl rfl rfl (by rfl) ?_
 refine Qj (o2 := 0) rfl rfl rfl (s_stp (cs' := [.int .i64 m.c, .int .i64 m.m, .int .i64 0, .int .i64 0, .slice none 0 0]) 0 rfl rfl rfl rfl rfl rfl (WpL.nil (Qb (Qa (Qj (o2 := 2) rfl rfl rfl (Qj (o2 := 2) rfl rfl rfl (Qo rfl rfl (by rfl) ?_)))))))
 refine Qj (o2 := 2) rfl rfl rfl (Qj (o2 := 2) rfl rfl rfl (Q6 rfl rfl rfl (WpL.nil (Qb (Qa (Qj (o2 := 2) rfl rfl rfl (Qj (o2 := 3) rfl rfl rfl (Qo rfl rfl (by rfl) ?_))))))))
 refine Qj (o2 := 2) rfl rfl rfl (Qj (o2 := 3) rfl rfl rfl (Q6 rfl rfl rfl (WpL.nil (Qb (Qa (Qj (o2 := 2) rfl rfl rfl (Qj (o2 := 4) rfl rfl rfl (Qo rfl rfl (by rfl) ?_))))))))
 refine Qj (o2 := 2) rfl rfl rfl (Qj (o2 := 4) rfl rfl rfl (Qo rfl rfl (by rfl) ?_))
 refine WpL.ent (Ent.own_nil (T := 92) (s := 1) (Ent.refl _)) ?_
 refine s_appR (xs := []) (m2 := m.px.length) rfl rfl rfl (by repeat' constructor) (QR (T := 92) (s := 1) (a := a1) (c := c1) (m := m.px.length)) (by exact Take.ent' (by repeat' constructor)) (by rw [XI, Nat.mul_one]) (by rfl) (by rfl) (pxs_one _) (by omega) (by omega) ?_
 intro a45 c45
 rw [List.nil_append, Nat.zero_add]
 refine Zi (T := 92) (s := 1) (a := a45) (c := c45) (by repeat' constructor) (fun hc45 => ?_)
 refine Qj (o2 := 2) rfl rfl rfl (Qj (o2 := 4) rfl rfl rfl (Q6 rfl rfl rfl (WpL.nil (Qb ?_))))
 apply Xi (fB := []) mixed [(11, false)] (by kernel_rfl)
 apply Xe [⟨0, 48, _, [], false⟩, ⟨1, 49, _, [0], false⟩, ⟨2, 50, _, [1], false⟩, ⟨3, 51, _, [], false⟩, ⟨4, 52, _, [], false⟩, ⟨5, 53, _, [4], false⟩, ⟨6, 54, _, [5], false⟩, ⟨7, 55, _, [6], false⟩, ⟨8, 56, _, [3, 7], false⟩, ⟨9, 57, _, [], false⟩, ⟨10, 58, _, [0, 1, 2, 3, 4, 5, 6, 7, 8, 9], false⟩] [] [0, 1, 2, 3, 4, 5, 6, 7, 8, 9, 10] [] (.inr rfl) rfl rfl rfl (by kernel_rfl) rfl rfl rfl
 ·refine AllF.cons rfl rfl rfl rfl ?_ ?_
  ·exact Qj (o2 := 2) rfl rfl rfl (Qn rfl)
  refine AllF.cons rfl rfl rfl rfl ?_ ?_
  ·exact Qj (o2 := 4) rfl rfl rfl (Qn rfl)
  refine AllF.cons rfl rfl rfl rfl ?_ ?_
  ·refine Qo rfl rfl (by rfl) ?_
   exact Qn rfl
  refine AllF.cons rfl rfl rfl rfl ?_ ?_
  ·exact Qc rfl rfl (Qn rfl)
  refine AllF.cons rfl rfl rfl rfl ?_ ?_
  ·exact Qj (o2 := 2) rfl rfl rfl (Qn rfl)
  refine AllF.cons rfl rfl rfl rfl ?_ ?_
  ·exact Qj (o2 := 4) rfl rfl rfl (Qn rfl)
  refine AllF.cons rfl rfl rfl rfl ?_ ?_
  ·refine Qo rfl rfl (by rfl) ?_
   exact Qn rfl
  refine AllF.cons rfl rfl rfl rfl ?_ ?_
  ·exact QH rfl rfl (WpL.nil ⟨rfl, rfl, rfl, by exact Ent.refl _⟩)
  refine AllF.cons rfl rfl rfl rfl ?_ ?_
  ·refine Qh rfl rfl (by repeat' constructor) (Ye _ _ (by omega) (by omega) (by omega)) ?_
   rintro _ _ ⟨rfl, rfl⟩
   simp only [Qr]
   rw [hka]
   exact WpL.nil ⟨rfl, rfl, rfl, by exact Ent.refl _⟩
  refine AllF.cons rfl rfl rfl rfl ?_ ?_
  ·exact Qc rfl rfl (Qn rfl)
  refine AllF.cons rfl rfl rfl rfl ?_ ?_
  ·refine Q2 ka rfl rfl rfl (QR (T := 92) (s := 1) (a := a45) (c := c45) (m := m.px.length)) (by exact Take.ent' (by repeat' constructor)) rfl hkl2 (by rw [XI]; exact hkl2) ?_
   exact Qn rfl
  exact AllF.nil
 ·refine s_sto (a := a45) rfl rfl rfl (by repeat' constructor) (by rw [XI]; exact hkl2) ?_
  rw [pxs_set]
  refine WpL.nil ⟨rfl, rfl, ?_⟩
  apply GoR.nil [] (.inr rfl) rfl rfl
  ·exact AllF.nil
  ·refine Qb (Qa ?_)
   refine QA (vs := [_, _, _, _, _]) rfl rfl rfl (by rfl) ?_
   refine QA (vs := [_, _, _, _, _]) rfl rfl rfl (by rfl) ?_
   refine s_bsA2 (s := 5) rfl rfl rfl rfl rfl rfl rfl rfl ?_
   intro gA
   refine Qe rfl rfl (WpL.nil (QS (gr := [(1, _), (9, _), (11, _)]) (FrLe.cons rfl (FrLe.cons rfl (FrLe.cons rfl FrLe.nil))) ?_))
   refine Qb (Qb (Qa (Qe rfl rfl (WpL.nil (Wp.block ?_)))))
   have hsl : (m.px.set ka px1).length = m.px.length := List.length_set
   have hcl : mCs [(m, a1, c1), ((⟨m.c, m.m, m.w, m.h, m.px.set ka px1⟩ : Img), a45, c45)] = ([.int .i64 m.c, .int .i64 m.m, .int .i64 m.w, .int .i64 m.h, .slice a1 m.px.length c1] ++ [.int .i64 m.c, .int .i64 m.m, .int .i64 m.w, .int .i64 m.h, .slice a45 m.px.length c45]) := by show (_ : List Value) = _; rw [← hsl]; simp [mCs, mC]
   refine Wp.ent (m := [QB gA (mCs [(m, a1, c1), ((⟨m.c, m.m, m.w, m.h, m.px.set ka px1⟩ : Img), a45, c45)]) 71, QB gM [.int .i64 m.c, .int .i64 m.m, .int .i64 m.w, .int .i64 m.h, .slice a1 m.px.length c1] 71, many [QL 92 1 a1 c1 m.px.length (XA m.px), QL 92 1 a45 c45 m.px.length (XA (m.px.set ka px1))], A0]) (Ent.trans (Take.ent' (pre := [QB gA ([.int .i64 m.c, .int .i64 m.m, .int .i64 m.w, .int .i64 m.h, .slice a1 m.px.length c1] ++ [.int .i64 m.c, .int .i64 m.m, .int .i64 m.w, .int .i64 m.h, .slice a45 m.px.length c45]) 71, QB gM [.int .i64 m.c, .int .i64 m.m, .int .i64 m.w, .int .i64 m.h, .slice a1 m.px.length c1] 71, QL 92 1 a1 c1 m.px.length (XA m.px), QL 92 1 a45 c45 m.px.length (XA (m.px.set ka px1)), A0]) (by repeat' constructor)) (by rw [hcl]; exact Ent.cons (Ent.cons (Ent.many (Ent.refl _))))) ?_
   have htok : ∀ r ∈ ([(m, a1, c1), ((⟨m.c, m.m, m.w, m.h, m.px.set ka px1⟩ : Img), a45, c45)] : ImL), RdsL [many [QL 92 1 a1 c1 m.px.length (XA m.px), QL 92 1 a45 c45 m.px.length (XA (m.px.set ka px1))]] r.2.1 (XA r.1.px) ∧ (∀ p ∈ r.1.px, 0 ≤ p ∧ p < 18446744073709551616) ∧ r.1.px.length ≤ r.2.2 ∧ r.1.px.length ≤ 10000 ∧ r.1.c = m.c ∧ r.1.m = m.m ∧ r.1.w = m.w ∧ r.1.h = m.h := by
    intro r hr
    rcases List.mem_cons.1 hr with rfl | hr
    ·exact ⟨QR.ent (many_mem (A := QL 92 1 a1 c1 m.px.length (XA m.px)) List.mem_cons_self), fun p hp => (hgp p hp).2, hca, by omega, rfl, rfl, rfl, rfl⟩
    ·obtain rfl := List.mem_singleton.1 hr
     refine ⟨QR.ent (many_mem (A := QL 92 1 a45 c45 m.px.length (XA (m.px.set ka px1))) (List.mem_cons_of_mem _ List.mem_cons_self)), fun p hp => ?_, by simp only; omega, by simp only; omega, rfl, rfl, rfl, rfl⟩
     rcases List.mem_or_eq_of_mem_set hp with q | rfl
     ·exact (hgp p q).2
     ·exact hp1
   have hll : ([(m, a1, c1), ((⟨m.c, m.m, m.w, m.h, m.px.set ka px1⟩ : Img), a45, c45)] : ImL).length = 2 := rfl
   generalize ([(m, a1, c1), ((⟨m.c, m.m, m.w, m.h, m.px.set ka px1⟩ : Img), a45, c45)] : ImL) = L at *
   generalize many [QL 92 1 a1 c1 m.px.length (XA m.px), QL 92 1 a45 c45 m.px.length (XA (m.px.set ka px1))] = B2 at *
   refine Wp.loopD (σ := Nat) (fun i => i ≤ 2) [8, 12, 13, 14, 15, 16, 17, 18, 19, 20, 21, 22, 23, 62, 63, 64, 65, 66, 67, 68, 69, 70, 71, 72, 73, 74, 75, 76, 77, 78, 79, 80, 81, 82, 83, 84, 85, 86, 87, 88, 89, 90, 91, 92, 93, 94, 95, 96, 97, 98, 99, 100, 101, 102, 103, 104, 105, 106, 107, 108, 109, 110, 111, 112, 113, 114, 115, 116, 117, 118, 119, 120, 121, 122, 123, 124, 125, 126, 127, 128, 129, 130, 131, 132, 133, 134, 135, 136, 137, 138, 139, 140, 141, 142, 143, 144, 145, 146, 147, 148, 149, 150, 151, 152, 153, 154, 155, 156, 157, 158, 159, 160, 161, 162, 163, 164, 165, 166, 167, 168, 169, 170, 171, 172, 173, 174, 175, 176, 177, 178, 179, 180, 181, 182, 183, 184, 185, 186, 187, 188, 189, 190, 191, 192, 193, 194] (fun i => [(12, .int .i64 (i : Int))]) (fun i => [QB gA (mCs L) 71, QB gM [.int .i64 m.c, .int .i64 m.m, .int .i64 m.w, .int .i64 m.h, .slice a1 m.px.length c1] 71, B2, A0]) (fun i => 2 - i) 0 ?_ (by repeat (first | exact FrLe.nil | refine FrLe.cons rfl ?_)) ?_ ?_
   ·exact Nat.zero_le _
   ·exact Ent.refl _
   ·rintro i hi
    refine Qb (Qb (Qa (Qc rfl rfl (Q4 rfl rfl rfl (WpL.nil (Qk rfl (fun h1 => ?_) (fun h1 => ?_)))))))
    ·have hit : i < L.length := by omega
     obtain ⟨htr, htb, htc, htl, hxc, hxm, hxw, hxh⟩ := htok _ (List.getElem_mem hit)
     have hne := mCs_ne L hit
     have htA : RdsL [QB gA (mCs L) 71] (some ⟨gA, 0, none⟩) (mCs L) := RdsL.blk (o := 0) (by simp)
     refine Wp.skip (Qb (Wp.block ?_))
     refine Qb (Qb ?_)
     apply QU mixed [⟨66, _, []⟩, ⟨67, _, []⟩, ⟨68, _, [0, 1]⟩, ⟨69, _, [2]⟩, ⟨70, _, [3]⟩, ⟨71, _, [4]⟩, ⟨72, _, []⟩, ⟨73, _, []⟩, ⟨74, _, [6, 7]⟩, ⟨75, _, [8]⟩, ⟨76, _, [9, 5]⟩, ⟨77, _, [5, 10]⟩] rfl
     ·refine AllObs.mk ?_ ?_
      ·exact Qc rfl rfl (Qn rfl)
      refine AllObs.mk ?_ ?_
      ·exact Qc rfl rfl (Qn rfl)
      refine AllObs.mk ?_ ?_
      ·refine s_ixR (s := 5) i rfl rfl rfl htA (by exact Take.ent' (by repeat' constructor)) rfl (by omega) hne ?_
       exact Qn rfl
      refine AllObs.mk ?_ ?_
      ·refine Z5 (vs := mC L[i].1 L[i].2.1 L[i].2.2) rfl rfl htA (by exact Take.ent' (by repeat' constructor)) hne rfl (YV L hit) ?_
       exact Qn rfl
      refine AllObs.mk ?_ ?_
      ·refine Qh rfl rfl (by repeat' constructor) (ZM L[i].1 L[i].2.1 L[i].2.2) ?_
       rintro _ _ ⟨rfl, rfl⟩
       simp only [Qr]
       exact WpL.nil ⟨rfl, rfl, rfl, by exact Ent.refl _⟩
      refine AllObs.mk ?_ ?_
      ·refine Qh rfl rfl (by repeat' constructor) (iMay_spec [B2] L[i].1.c L[i].1.m L[i].1.w L[i].1.h L[i].2.1 L[i].2.2 L[i].1.px htr htb (by omega)) ?_
       rintro _ _ ⟨rfl, rfl⟩
       simp only [Qr]
       exact WpL.nil ⟨rfl, rfl, rfl, by exact Take.ent' (by repeat' constructor)⟩
      refine AllObs.mk ?_ ?_
      ·exact Qc rfl rfl (Qn rfl)
      refine AllObs.mk ?_ ?_
      ·exact Qc rfl rfl (Qn rfl)
      refine AllObs.mk ?_ ?_
      ·refine s_ixR (s := 5) i rfl rfl rfl htA (by exact Take.ent' (by repeat' constructor)) rfl (by omega) hne ?_
       exact Qn rfl
      refine AllObs.mk ?_ ?_
      ·refine Z5 (vs := mC L[i].1 L[i].2.1 L[i].2.2) rfl rfl htA (by exact Take.ent' (by repeat' constructor)) hne rfl (YV L hit) ?_
       exact Qn rfl
      refine AllObs.mk ?_ ?_
      ·refine Qh rfl rfl (by repeat' constructor) (rMay10_spec [B2] L[i].1.c L[i].1.m L[i].1.w L[i].1.h L[i].2.1 L[i].2.2 L[i].1.px htr htb (by omega)) ?_
       rintro _ _ ⟨rfl, rfl⟩
       simp only [Qr]
       exact WpL.nil ⟨rfl, rfl, rfl, by exact Take.ent' (by repeat' constructor)⟩
      refine AllObs.mk ?_ ?_
      ·exact s_bne rfl Tryz.underlying4 rfl rfl (Qn rfl)
      exact AllObs.nil
     ·refine QS (gr := [(1, _), (9, _), (11, _), (12, _), (77, _)]) (FrLe.cons rfl (FrLe.cons rfl (FrLe.cons rfl (FrLe.cons rfl (FrLe.cons rfl FrLe.nil))))) ?_
      refine Wp.condBF rfl (by simp) ?_
      refine Wp.skip (Qb (Qa (Qe rfl rfl (WpL.nil (QS (gr := [(1, _), (9, _), (11, _), (12, _), (13, _)]) (FrLe.cons rfl (FrLe.cons rfl (FrLe.cons rfl (FrLe.cons rfl (FrLe.cons rfl FrLe.nil))))) ?_)))))
      refine Wp.block ?_
      refine Wp.loopD (σ := Nat) (fun k => k ≤ 8) [8, 13, 14, 15, 16, 17, 18, 19, 20, 21, 22, 23, 78, 79, 80, 81, 82, 83, 84, 85, 86, 87, 88, 89, 90, 91, 92, 93, 94, 95, 96, 97, 98, 99, 100, 101, 102, 103, 104, 105, 106, 107, 108, 109, 110, 111, 112, 113, 114, 115, 116, 117, 118, 119, 120, 121, 122, 123, 124, 125, 126, 127, 128, 129, 130, 131, 132, 133, 134, 135, 136, 137, 138, 139, 140, 141, 142, 143, 144, 145, 146, 147, 148, 149, 150, 151, 152, 153, 154, 155, 156, 157, 158, 159, 160, 161, 162, 163, 164, 165, 166, 167, 168, 169, 170, 171, 172, 173, 174, 175, 176, 177, 178, 179, 180, 181, 182, 183, 184, 185, 186, 187, 188, 189, 190, 191, 192, 193, 194] (fun k => [(13, .int .i64 (k : Int))]) (fun k => [QB gA (mCs L) 71, QB gM [.int .i64 m.c, .int .i64 m.m, .int .i64 m.w, .int .i64 m.h, .slice a1 m.px.length c1] 71, B2, A0]) (fun k => 8 - k) 0 ?_ (by repeat (first | exact FrLe.nil | refine FrLe.cons rfl ?_)) ?_ ?_
      ·exact Nat.zero_le _
      ·exact Ent.refl _
      ·rintro k hk
       refine Qb (Qb (Qa (Qc rfl rfl (Q4 rfl rfl rfl (WpL.nil (QS (gr := [(1, _), (9, _), (11, _), (12, _), (13, _), (79, _)]) (FrLe.cons rfl (FrLe.cons rfl (FrLe.cons rfl (FrLe.cons rfl (FrLe.cons rfl (FrLe.cons rfl FrLe.nil)))))) ?_))))))
       refine Qk rfl (fun h4 => ?_) (fun h4 => ?_)
       ·obtain ⟨n, hn1, hn2⟩ := kind_ex k kd
        refine Wp.skip (Qb (Wp.block ?_))
        refine Qb (Qa (Qc rfl rfl (Qe rfl rfl (WpL.nil ?_))))
        refine Wp.cutS 14 (.int .i64 n) [14, 83, 84, 85] ?_ ?_
        ·refine Qb (Qa (Qc rfl rfl (QK rfl rfl rfl (WpL.nil (Qk rfl (fun h5 => ?_) (fun h5 => ?_))))))
         ·obtain rfl := hn1 h5
          exact Qa (Qc rfl rfl (Qe rfl rfl (WpL.nil (cutS_end (by ((repeat (first | exact Top.refl | refine Top.push rfl ?_)); done)) rfl (by exact Ent.refl _)))))
         ·obtain rfl := hn2 h5
          exact Wp.skip (cutS_end (by ((repeat (first | exact Top.refl | refine Top.push rfl ?_)); done)) rfl (by exact Ent.refl _))
        ·refine Qb (Qa (Qc rfl rfl (Qc rfl rfl (s_ixR (s := 5) i rfl rfl rfl htA (by exact Take.ent' (by repeat' constructor)) rfl (by omega) hne ?_))))
         refine Z5 (vs := mC L[i].1 L[i].2.1 L[i].2.2) rfl rfl htA (by exact Take.ent' (by repeat' constructor)) hne rfl (YV L hit) ?_
         refine Qh rfl rfl (by repeat' constructor) (ZM L[i].1 L[i].2.1 L[i].2.2) ?_
         rintro _ _ ⟨rfl, rfl⟩
         simp only [Qr]
         refine Qc rfl rfl (Qh rfl rfl (by repeat' constructor) (iWriteX_spec B2 L[i].1 (by omega) (by omega) L[i].2.1 L[i].2.2 htr htb htc (by omega) n) ?_)
         intro v0 m0 hN0
         rcases hN0 with ⟨hT, gW, cW, hcW, rfl, rfl⟩ | ⟨hT, rfl, rfl⟩
         ·simp only [Qr]
          have hgk := good_tk hT (by omega) (by omega) htb
          have hwl := wrI_len (by omega) hgk hT.1
          have hwb := wrI_byte (by omega) hgk hT.1
          obtain ⟨jj, hpb, _, _⟩ := par_backI (by omega) hgk hT.1
          refine Qc rfl rfl (QD rfl rfl rfl (QD rfl rfl rfl (Qe rfl rfl (Qe rfl rfl (WpL.nil (Qb (Qa (Qc rfl rfl (Qc rfl rfl (s_ixR (s := 5) i rfl rfl rfl htA (by exact Take.ent' (by repeat' constructor)) rfl (by omega) hne ?_))))))))))
          refine Z5 (vs := mC L[i].1 L[i].2.1 L[i].2.2) rfl rfl htA (by exact Take.ent' (by repeat' constructor)) hne rfl (YV L hit) ?_
          refine Qc rfl rfl (Qh rfl rfl (by repeat' constructor) (rWrite10c_spec B2 L[i].1 L[i].2.1 L[i].2.2 htr 100 (by omega) hgk n hT.1) ?_)
          rintro _ _ ⟨B, bB, eB, hBr, hBl, rfl, rfl⟩
          simp only [Qr]
          refine Qc rfl rfl (QD rfl rfl rfl (QD rfl rfl rfl (Qe rfl rfl (Qe rfl rfl (WpL.nil (Qb (Qa (Qc rfl rfl (Qc rfl rfl (s_ixR (s := 5) i rfl rfl rfl htA (by exact Take.ent' (by repeat' constructor)) rfl (by omega) hne ?_))))))))))
          refine Z5 (vs := mC L[i].1 L[i].2.1 L[i].2.2) rfl rfl htA (by exact Take.ent' (by repeat' constructor)) hne rfl (YV L hit) ?_
          refine Qh rfl rfl (by repeat' constructor) (ZM L[i].1 L[i].2.1 L[i].2.2) ?_
          rintro _ _ ⟨rfl, rfl⟩
          simp only [Qr]
          refine Qc rfl rfl (Qh rfl rfl (by repeat' constructor) (iHead_yes [B2] L[i].1.c L[i].1.m L[i].1.w L[i].1.h L[i].2.1 L[i].2.2 L[i].1.px htr htb (by omega) n hT) ?_)
          rintro _ _ ⟨rfl, rfl⟩
          simp only [Qr]
          refine Qc rfl rfl (QD rfl rfl rfl (QD rfl rfl rfl (XY rfl ?_)))
          intro gH
          refine Xb rfl rfl rfl (by rfl) rfl ?_
          refine Qe rfl rfl (WpL.nil (QS (gr := [(1, _), (9, _), (11, _), (12, _), (13, _), (14, _), (15, _), (16, _), (17, _), (18, _), (19, _), (20, _)]) (FrLe.cons rfl (FrLe.cons rfl (FrLe.cons rfl (FrLe.cons rfl (FrLe.cons rfl (FrLe.cons rfl (FrLe.cons rfl (FrLe.cons rfl (FrLe.cons rfl (FrLe.cons rfl (FrLe.cons rfl (FrLe.cons rfl FrLe.nil)))))))))))) ?_))
          refine Qb (Qb (Qa (Qc rfl rfl (s_b2sR rfl Tryz.underlying22 Tryz.underlying5 Tryz.underlying9 rfl (RdsL.rdo (g := gW) (xs := Xh (ZT L[i].1 n))) (by exact Take.ent' (by repeat' constructor)) rfl ?_))))
          refine Qc rfl rfl (s_b2sR rfl Tryz.underlying22 Tryz.underlying5 Tryz.underlying9 rfl hBr (by exact Take.ent' (by repeat' constructor)) rfl ?_)
          refine s_sne rfl rfl rfl (Qc rfl rfl (Qu (dj := 120) rfl (decide_eq_false (fun h => h rfl)) ?_))
          refine Qf rfl rfl (Qc rfl rfl (Qf rfl rfl (Qc rfl rfl (Qf rfl rfl (Xc rfl rfl rfl (Qq rfl rfl rfl (Qc rfl rfl (Qu (dj := 125) rfl (decide_eq_false (fun h => h rfl)) ?_))))))))
          refine Qf rfl rfl (Qc rfl rfl (Qf rfl rfl (Qc rfl rfl (Qf rfl rfl (Xc rfl rfl rfl (Qq rfl rfl rfl (Qc rfl rfl (Qu (dj := 130) rfl (decide_eq_false (fun h => h rfl)) ?_))))))))
          refine Qf rfl rfl (Qc rfl rfl (Qf rfl rfl (QK rfl rfl rfl (Qf rfl rfl (Qc rfl rfl (Qx (dj := 133) rfl (decide_eq_true rfl) ?_))))))
          refine Qf rfl rfl (Qj (o2 := 0) rfl rfl rfl (Qf rfl rfl (Qo rfl rfl (by rfl) ?_)))
          refine Qf rfl rfl (Qc rfl rfl (Qf rfl rfl (Xc rfl rfl rfl (Qf rfl rfl (Qc rfl rfl (Qu (dj := 138) rfl (decide_eq_false (fun h => h rfl)) ?_))))))
          refine Qf rfl rfl (Qj (o2 := 1) rfl rfl rfl (Qf rfl rfl (Qo rfl rfl (by rfl) ?_)))
          refine Qf rfl rfl (Qj (o2 := 2) rfl rfl rfl (Qf rfl rfl (Qj (o2 := 2) rfl rfl rfl (Qf rfl rfl (Qo rfl rfl (by rfl) ?_)))))
          refine Qf rfl rfl (Xc rfl rfl rfl (Qf rfl rfl (Qq rfl rfl rfl (Qf rfl rfl (Qc rfl rfl (Qu (dj := 146) rfl (decide_eq_false (fun h => h hxw)) ?_))))))
          refine Qf rfl rfl (Qj (o2 := 2) rfl rfl rfl (Qf rfl rfl (Qo rfl rfl (by rfl) ?_)))
          refine Qf rfl rfl (Qj (o2 := 2) rfl rfl rfl (Qf rfl rfl (Qj (o2 := 3) rfl rfl rfl (Qf rfl rfl (Qo rfl rfl (by rfl) ?_)))))
          refine Qf rfl rfl (Xc rfl rfl rfl (Qf rfl rfl (Qq rfl rfl rfl (Qf rfl rfl (Qc rfl rfl (Qu (dj := 154) rfl (decide_eq_false (fun h => h hxh)) ?_))))))
          refine Qf rfl rfl (Qj (o2 := 3) rfl rfl rfl (Qf rfl rfl (Qo rfl rfl (by rfl) ?_)))
          refine Qf rfl rfl (Qj (o2 := 0) rfl rfl rfl (Qf rfl rfl (Qj (o2 := 1) rfl rfl rfl (Qf rfl rfl (Qo rfl rfl (by rfl) ?_)))))
          refine Qf rfl rfl (Xc rfl rfl rfl (Qf rfl rfl (Qq rfl rfl rfl (Qf rfl rfl (Qs rfl rfl rfl (Qq rfl rfl rfl (WpL.nil (QS (gr := [(1, _), (9, _), (11, _), (12, _), (13, _), (15, _), (16, _), (163, _)]) (FrLe.cons rfl (FrLe.cons rfl (FrLe.cons rfl (FrLe.cons rfl (FrLe.cons rfl (FrLe.cons rfl (FrLe.cons rfl (FrLe.cons rfl FrLe.nil)))))))) ?_))))))))
          refine Qz rfl (fun h => h hxm) ?_
          refine Wp.skip (Qb (Qb (Qa (Qc rfl rfl (Xc rfl rfl rfl (WpL.nil (Qz rfl (fun h => h rfl) ?_)))))))
          refine Wp.skip (Qb (Qa (Qc rfl rfl (Qh rfl rfl (by repeat' constructor) (hdAll_spec) ?_))))
          rintro _ _ ⟨rfl, rfl⟩
          simp only [Qr]
          refine Qh rfl rfl (by repeat' constructor) (iParse_spec (rdo gW (Xh (ZT L[i].1 n))) (some ⟨gW, 0, none⟩) cW (ZT L[i].1 n) RdsL.rdo hwb hcW (by omega) 4096 65536 65535) ?_
          rintro _ _ ⟨aR, cR, rfl, rfl⟩
          simp only [Qr]
          rw [hpb]
          dsimp only
          refine Qc rfl rfl (QD rfl rfl rfl (QD rfl rfl rfl (QD rfl rfl rfl (XY rfl ?_))))
          intro gB
          refine Xb rfl rfl rfl (by rfl) rfl ?_
          refine Qe rfl rfl (Qe rfl rfl (WpL.nil (QS (gr := [(1, _), (9, _), (11, _), (12, _), (13, _), (21, _), (23, _)]) (FrLe.cons rfl (FrLe.cons rfl (FrLe.cons rfl (FrLe.cons rfl (FrLe.cons rfl (FrLe.cons rfl (FrLe.cons rfl FrLe.nil))))))) ?_)))
          refine Qb ?_
          apply QU mixed [⟨173, _, []⟩, ⟨174, _, [0]⟩, ⟨175, _, [1]⟩, ⟨176, _, [2]⟩, ⟨177, _, [3, 2]⟩, ⟨178, _, [2]⟩, ⟨179, _, [2]⟩, ⟨180, _, [5, 6, 2]⟩, ⟨181, _, [7, 2]⟩, ⟨182, _, [4, 8, 2]⟩, ⟨183, _, [9, 2]⟩, ⟨184, _, [2, 10]⟩, ⟨185, _, [11, 9]⟩, ⟨186, _, [12]⟩, ⟨187, _, [12]⟩, ⟨188, _, [12]⟩, ⟨189, _, [14, 15, 12]⟩, ⟨190, _, [16, 12]⟩, ⟨191, _, [17, 12]⟩, ⟨192, _, [13, 18, 12]⟩, ⟨193, _, [19, 12]⟩, ⟨194, _, [12, 20]⟩] rfl
          ·refine AllObs.mk ?_ ?_
           ·exact Qc rfl rfl (Qn rfl)
           refine AllObs.mk ?_ ?_
           ·exact Xc rfl rfl rfl (Qn rfl)
           refine AllObs.mk ?_ ?_
           ·exact Qc rfl rfl (Qn rfl)
           refine AllObs.mk ?_ ?_
           ·refine Qu (dj := 175) rfl (decide_eq_false (fun h => h rfl)) ?_
            refine Qf rfl rfl ?_
            refine QA (vs := [_, _, _, _, _]) rfl rfl rfl (by rfl) ?_
            exact Qn rfl
           refine AllObs.mk ?_ ?_
           ·refine Qu (dj := 175) rfl (decide_eq_false (fun h => h rfl)) ?_
            refine Qf rfl rfl (Qh rfl rfl (by repeat' constructor) (as10_spec L[i].1 aR cR) ?_)
            rintro _ _ ⟨rfl, rfl⟩
            simp only [Qr]
            exact WpL.nil ⟨rfl, rfl, rfl, by exact Ent.refl _⟩
           refine AllObs.mk ?_ ?_
           ·refine Qu (dj := 175) rfl (decide_eq_false (fun h => h rfl)) ?_
            exact Qf rfl rfl (Qc rfl rfl (Qn rfl))
           refine AllObs.mk ?_ ?_
           ·refine Qu (dj := 175) rfl (decide_eq_false (fun h => h rfl)) ?_
            exact Qf rfl rfl (Qc rfl rfl (Qn rfl))
           refine AllObs.mk ?_ ?_
           ·refine Qu (dj := 175) rfl (decide_eq_false (fun h => h rfl)) ?_
            refine Qf rfl rfl (s_ixR (s := 5) i rfl rfl rfl htA (by exact Take.ent' (by repeat' constructor)) rfl (by omega) hne ?_)
            exact Qn rfl
           refine AllObs.mk ?_ ?_
           ·refine Qu (dj := 175) rfl (decide_eq_false (fun h => h rfl)) ?_
            refine Qf rfl rfl ?_
            refine Z5 (vs := mC L[i].1 L[i].2.1 L[i].2.2) rfl rfl htA (by exact Take.ent' (by repeat' constructor)) hne rfl (YV L hit) ?_
            exact Qn rfl
           refine AllObs.mk ?_ ?_
           ·refine Qu (dj := 175) rfl (decide_eq_false (fun h => h rfl)) ?_
            refine Qf rfl rfl (Qh rfl rfl (by repeat' constructor) (Same10_true [QL 92 1 aR cR L[i].1.px.length (XA L[i].1.px), B2] L[i].1 aR L[i].2.1 cR L[i].2.2 QR.head htr.tail (by omega)) ?_)
            rintro _ _ ⟨rfl, rfl⟩
            simp only [Qr]
            exact WpL.nil ⟨rfl, rfl, rfl, by exact Take.ent' (by repeat' constructor)⟩
           refine AllObs.mk ?_ ?_
           ·refine Qu (dj := 175) rfl (decide_eq_false (fun h => h rfl)) ?_
            exact Qf rfl rfl (Y9 rfl rfl (Qn rfl))
           refine AllObs.mk ?_ ?_
           ·refine Qu (dj := 175) rfl (decide_eq_false (fun h => h rfl)) ?_
            exact Qq rfl rfl rfl (Qn rfl)
           refine AllObs.mk ?_ ?_
           ·exact Qc rfl rfl (Qn rfl)
           refine AllObs.mk ?_ ?_
           ·refine Qf rfl rfl ?_
            refine QA (vs := [_, _, _, _, _]) rfl rfl rfl (by rfl) ?_
            exact Qn rfl
           refine AllObs.mk ?_ ?_
           ·exact Qf rfl rfl (Qc rfl rfl (Qn rfl))
           refine AllObs.mk ?_ ?_
           ·exact Qf rfl rfl (Qc rfl rfl (Qn rfl))
           refine AllObs.mk ?_ ?_
           ·refine Qf rfl rfl (s_ixR (s := 5) i rfl rfl rfl htA (by exact Take.ent' (by repeat' constructor)) rfl (by omega) hne ?_)
            exact Qn rfl
           refine AllObs.mk ?_ ?_
           ·refine Qf rfl rfl ?_
            refine Z5 (vs := mC L[i].1 L[i].2.1 L[i].2.2) rfl rfl htA (by exact Take.ent' (by repeat' constructor)) hne rfl (YV L hit) ?_
            exact Qn rfl
           refine AllObs.mk ?_ ?_
           ·refine Qf rfl rfl (Qh rfl rfl (by repeat' constructor) (ZM L[i].1 L[i].2.1 L[i].2.2) ?_)
            rintro _ _ ⟨rfl, rfl⟩
            simp only [Qr]
            exact WpL.nil ⟨rfl, rfl, rfl, by exact Ent.refl _⟩
           refine AllObs.mk ?_ ?_
           ·refine Qf rfl rfl (Qh rfl rfl (by repeat' constructor) (iSame_spec [QL 92 1 aR cR L[i].1.px.length (XA L[i].1.px), B2] L[i].1 L[i].1 aR L[i].2.1 cR L[i].2.2 QR.head htr.tail (by omega)) ?_)
            rintro _ _ ⟨rfl, rfl⟩
            simp only [Qr]
            rw [self_same]
            exact WpL.nil ⟨rfl, rfl, rfl, by exact Take.ent' (by repeat' constructor)⟩
           refine AllObs.mk ?_ ?_
           ·exact Qf rfl rfl (Y9 rfl rfl (Qn rfl))
           refine AllObs.mk ?_ ?_
           ·exact Qq rfl rfl rfl (Qn rfl)
           exact AllObs.nil
          ·refine QS (gr := [(1, _), (9, _), (11, _), (12, _), (13, _), (194, _)]) (FrLe.cons rfl (FrLe.cons rfl (FrLe.cons rfl (FrLe.cons rfl (FrLe.cons rfl (FrLe.cons rfl FrLe.nil)))))) ?_
           refine Q0 rfl (Wp.skip (Qa (Qc rfl rfl (QE rfl rfl rfl (Qt (by omega) (by omega)) ?_))))
           refine Qe rfl rfl (WpL.nil (Qw (k + 1) ?_ ?_ (by exact Top.le (by repeat (first | exact FrLe.nil | refine FrLe.cons rfl ?_))) (by repeat (first | exact FrLe.nil | refine FrLe.cons rfl ?_)) ?_))
           ·omega
           ·omega
           ·exact Take.ent' (by repeat' constructor)
         ·simp only [Qr]
          refine Qc rfl rfl (QD rfl rfl rfl (QD rfl rfl rfl (Qe rfl rfl (Qe rfl rfl (WpL.nil (Qb (Qa (Qc rfl rfl (Qc rfl rfl (s_ixR (s := 5) i rfl rfl rfl htA (by exact Take.ent' (by repeat' constructor)) rfl (by omega) hne ?_))))))))))
          refine Z5 (vs := mC L[i].1 L[i].2.1 L[i].2.2) rfl rfl htA (by exact Take.ent' (by repeat' constructor)) hne rfl (YV L hit) ?_
          refine Qc rfl rfl (Qh rfl rfl (by repeat' constructor) (rWrite10n_spec B2 L[i].1.c L[i].1.m L[i].1.w L[i].1.h L[i].2.1 L[i].2.2 L[i].1.px htr htb (by omega) n hT) ?_)
          rintro _ _ ⟨rfl, rfl⟩
          simp only [Qr]
          refine Qc rfl rfl (QD rfl rfl rfl (QD rfl rfl rfl (Qe rfl rfl (Qe rfl rfl (WpL.nil (Qb (Qa (Qc rfl rfl (Qc rfl rfl (s_ixR (s := 5) i rfl rfl rfl htA (by exact Take.ent' (by repeat' constructor)) rfl (by omega) hne ?_))))))))))
          refine Z5 (vs := mC L[i].1 L[i].2.1 L[i].2.2) rfl rfl htA (by exact Take.ent' (by repeat' constructor)) hne rfl (YV L hit) ?_
          refine Qh rfl rfl (by repeat' constructor) (ZM L[i].1 L[i].2.1 L[i].2.2) ?_
          rintro _ _ ⟨rfl, rfl⟩
          simp only [Qr]
          refine Qc rfl rfl (Qh rfl rfl (by repeat' constructor) (iHead_no [B2] L[i].1.c L[i].1.m L[i].1.w L[i].1.h L[i].2.1 L[i].2.2 L[i].1.px htr htb (by omega) n hT) ?_)
          rintro _ _ ⟨rfl, rfl⟩
          simp only [Qr]
          refine Qc rfl rfl (QD rfl rfl rfl (QD rfl rfl rfl (XY rfl ?_)))
          intro gH
          refine Xb rfl rfl rfl (by rfl) rfl ?_
          refine Qe rfl rfl (WpL.nil (QS (gr := [(1, _), (9, _), (11, _), (12, _), (13, _), (14, _), (15, _), (16, _), (17, _), (18, _), (19, _), (20, _)]) (FrLe.cons rfl (FrLe.cons rfl (FrLe.cons rfl (FrLe.cons rfl (FrLe.cons rfl (FrLe.cons rfl (FrLe.cons rfl (FrLe.cons rfl (FrLe.cons rfl (FrLe.cons rfl (FrLe.cons rfl (FrLe.cons rfl FrLe.nil)))))))))))) ?_))
          refine Qb (Qb (Qa (Qc rfl rfl (s_b2sR (xs := []) rfl Tryz.underlying22 Tryz.underlying5 Tryz.underlying9 rfl (RdsL.nil (As := [])) (by exact Take.ent' (by repeat' constructor)) rfl ?_))))
          refine Qc rfl rfl (s_b2sR (xs := []) rfl Tryz.underlying22 Tryz.underlying5 Tryz.underlying9 rfl (RdsL.nil (As := [])) (by exact Take.ent' (by repeat' constructor)) rfl ?_)
          refine s_sne rfl rfl rfl (Qc rfl rfl (Qu (dj := 120) rfl (decide_eq_false (fun h => h rfl)) ?_))
          refine Qf rfl rfl (Qc rfl rfl (Qf rfl rfl (Qc rfl rfl (Qf rfl rfl (Xc rfl rfl rfl (Qq rfl rfl rfl (Qc rfl rfl (Qu (dj := 125) rfl (decide_eq_false (fun h => h rfl)) ?_))))))))
          refine Qf rfl rfl (Qc rfl rfl (Qf rfl rfl (Qc rfl rfl (Qf rfl rfl (Xc rfl rfl rfl (Qq rfl rfl rfl (Qc rfl rfl (Qu (dj := 130) rfl (decide_eq_false (fun h => h rfl)) ?_))))))))
          refine Qf rfl rfl (Qc rfl rfl (Qf rfl rfl (QK rfl rfl rfl (Qf rfl rfl (Qc rfl rfl (Qu (dj := 133) rfl (decide_eq_false (by decide)) ?_))))))
          refine Qd rfl rfl rfl (by decide) (Qd rfl rfl rfl (by decide) (Qd rfl rfl rfl (by decide) (Qd rfl rfl rfl (by decide) (Qd rfl rfl rfl (by decide) (QI rfl rfl rfl (QI rfl rfl rfl (QI rfl rfl rfl (QI rfl rfl rfl (QI rfl rfl rfl (QI rfl rfl rfl (Qd rfl rfl rfl (by decide) (Qd rfl rfl rfl (by decide) ?_))))))))))))
          refine QI rfl rfl rfl (QI rfl rfl rfl (QI rfl rfl rfl (QI rfl rfl rfl (QI rfl rfl rfl (QI rfl rfl rfl (Qd rfl rfl rfl (by decide) (Qd rfl rfl rfl (by decide) (QI rfl rfl rfl (QI rfl rfl rfl (QI rfl rfl rfl (QI rfl rfl rfl (QI rfl rfl rfl ?_))))))))))))
          refine QI rfl rfl rfl (Qd rfl rfl rfl (by decide) (Qf rfl rfl (Qq rfl rfl rfl (Qq rfl rfl rfl (WpL.nil (QS (gr := [(1, _), (9, _), (11, _), (12, _), (13, _), (15, _), (16, _), (163, _)]) (FrLe.cons rfl (FrLe.cons rfl (FrLe.cons rfl (FrLe.cons rfl (FrLe.cons rfl (FrLe.cons rfl (FrLe.cons rfl (FrLe.cons rfl FrLe.nil)))))))) ?_))))))
          refine Q0 rfl (Wp.skip (Qb (Qb (Qa (Qc rfl rfl (Xc rfl rfl rfl (WpL.nil (QM rfl (by decide) (QJ (Qa (Qc rfl rfl (QE rfl rfl rfl (Qt (by omega) (by omega)) ?_))))))))))))
          refine Qe rfl rfl (WpL.nil (Qw (k + 1) ?_ ?_ (by exact Top.le (by repeat (first | exact FrLe.nil | refine FrLe.cons rfl ?_))) (by repeat (first | exact FrLe.nil | refine FrLe.cons rfl ?_)) ?_))
          ·omega
          ·omega
          ·exact Take.ent' (by repeat' constructor)
       ·refine QJ (Qa (Qc rfl rfl (QE rfl rfl rfl (Qt (by omega) (by omega)) ?_)))
        refine Qe rfl rfl (WpL.nil (Qw (i + 1) ?_ ?_ (by exact Top.le (by repeat (first | exact FrLe.nil | refine FrLe.cons rfl ?_))) (by repeat (first | exact FrLe.nil | refine FrLe.cons rfl ?_)) ?_))
        ·omega
        ·omega
        ·exact Ent.refl _
    ·refine QJ (Qb (Qa (Qh rfl rfl (by repeat' constructor) (lives10_spec) ?_)))
     rintro _ _ ⟨rfl, rfl⟩
     simp only [Qr]
     refine Qe rfl rfl (WpL.nil (Qi ?_))
     apply RetQ.mk
     ·exact (Res.one rfl rfl)
     ·exact ⟨rfl, rfl⟩
     ·exact Take.ent' (by repeat' constructor)

end Go.Proofs.YtggamdlpiejbiaaGreat
