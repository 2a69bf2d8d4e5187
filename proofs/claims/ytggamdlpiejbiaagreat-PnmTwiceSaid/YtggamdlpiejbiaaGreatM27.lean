/- Walks and plain laws, a part of the proof of PnmTwice: every input that the law's guards let in, no condition beside. -/
import Derived.Lib.ConvBytes
import Derived.Test.YtggamdlpiejbiaaGreatM26
namespace Go.Proofs.YtggamdlpiejbiaaGreat
open Go.RowKit Go.Shelf


def Yy (w h : Int) : Prop := (1 ≤ w ∧ w ≤ 4096) ∧ (1 ≤ h ∧ h ≤ 65536) ∧ w * h ≤ 16777216
instance (w h : Int) : Decidable (Yy w h) := by unfold Yy; infer_instance
def FitsM (C M W H : Int) (px : List Int) : Prop := Yy W H ∧ (px.length : Int) = W * H ∧ ∀ p ∈ px, FitP p C M
instance (C M W H : Int) (px : List Int) : Decidable (FitsM C M W H px) := by unfold FitsM; infer_instance
theorem Take1.mid {A : HP} {As : List HP} : ∀ (Bs : List HP), Take1 (Bs ++ A :: As) A (Bs ++ As)
  | [] => .here
  | _ :: Bs => .there (Take1.mid Bs)
theorem Take.underL (Bs : List HP) : ∀ (As : List HP), Take (Bs ++ As) As Bs
  | [] => by rw [List.append_nil]; exact .nil
  | _ :: As => .cons (Take1.mid Bs) (Take.underL Bs As)
theorem Ent.left : ∀ (As F : List HP), Ent (As ++ F) As
  | [], _ => Ent.nil _
  | _ :: As, F => Ent.cons (Ent.left As F)
theorem sz_mul {w h : Int} (hw : 1 ≤ w ∧ w ≤ 4096) (hh : 1 ≤ h ∧ h ≤ 65536) : 0 ≤ w * h ∧ w * h ≤ 4096 * 65536 := ⟨Int.mul_nonneg (by omega) (by omega), Int.mul_le_mul (by omega) (by omega) (by omega) (by omega)⟩

theorem rSized_spec (w h : Int) : Fn Tryz.prog 175 #[.int .i64 w, .int .i64 h] [] (fun v l => v = .bool (decide (Yy w h)) ∧ l = []) := by
 refine Qo (vs := [.int .i64 w, .int .i64 h]) Tryz.func175 rfl Tryz.ntmps175 rfl (Qb (Qa (Qd rfl rfl (WpL.nil (Qb (Qb (Qa (Qc rfl rfl (Xc rfl rfl rfl (Qc rfl rfl (QP rfl rfl rfl (fun hg1 => ?_) (fun hg1 => ?_))))))))))))
 ·have hg1 := of_decide_eq_false hg1
  refine Qc rfl rfl (Qf rfl rfl (XJ rfl rfl rfl (Qu rfl rfl rfl (Qc rfl rfl (QP rfl rfl rfl (fun hg2 => ?_) (fun hg2 => ?_))))))
  ·have hg2 := of_decide_eq_false hg2
   refine Qc rfl rfl (Qf rfl rfl (Xc rfl rfl rfl (Qu rfl rfl rfl (Qc rfl rfl (QP rfl rfl rfl (fun hg3 => ?_) (fun hg3 => ?_))))))
   ·have hg3 := of_decide_eq_false hg3
    refine Qc rfl rfl (Qf rfl rfl (XJ rfl rfl rfl (Qu rfl rfl rfl (WpL.nil (Qh rfl (fun h0 => ?_) (fun h0 => ?_))))))
    ·refine Qb (Qa (Qd rfl rfl (WpL.nil (Qg ?_))))
     apply RetQ.mk
     ·exact (Res.one rfl rfl)
     ·exact ⟨by rw [decide_eq_false (show ¬Yy w h by unfold Yy; omega)], rfl⟩
     ·exact Ent.refl _
    ·have hmb := sz_mul (w := w) (h := h) (by omega) (by omega)
     refine Wp.skip (Qb (Qa (Qc rfl rfl (Qc rfl rfl (XQ rfl rfl rfl (Qp (by omega) (by omega)) ?_)))))
     refine s_le rfl rfl rfl (Qd rfl rfl (WpL.nil (Qg ?_)))
     apply RetQ.mk
     ·exact (Res.one rfl rfl)
     ·exact ⟨congrArg Value.bool (decide_eq_decide.2 (by unfold Yy; omega)), rfl⟩
     ·exact Ent.refl _
   ·have hg3 := of_decide_eq_true hg3
    refine Qe rfl rfl rfl (by decide) (Qr rfl rfl rfl (WpL.nil (Xg rfl (Qb (Qa (Qd rfl rfl (WpL.nil (Qg ?_))))))))
    apply RetQ.mk
    ·exact (Res.one rfl rfl)
    ·exact ⟨by rw [decide_eq_false (show ¬Yy w h by unfold Yy; omega)], rfl⟩
    ·exact Ent.refl _
  ·have hg2 := of_decide_eq_true hg2
   refine Qe rfl rfl rfl (by decide) (Qr rfl rfl rfl (Qc rfl rfl (Qe rfl rfl rfl (by decide) (Qe rfl rfl rfl (by decide) (Qr rfl rfl rfl (WpL.nil (Xg rfl (Qb (Qa (Qd rfl rfl (WpL.nil (Qg ?_))))))))))))
   apply RetQ.mk
   ·exact (Res.one rfl rfl)
   ·exact ⟨by rw [decide_eq_false (show ¬Yy w h by unfold Yy; omega)], rfl⟩
   ·exact Ent.refl _
 ·have hg1 := of_decide_eq_true hg1
  refine Qe rfl rfl rfl (by decide) (Qr rfl rfl rfl (Qc rfl rfl (Qe rfl rfl rfl (by decide) (Qe rfl rfl rfl (by decide) (Qr rfl rfl rfl (Qc rfl rfl (Qe rfl rfl rfl (by decide) (Qe rfl rfl rfl (by decide) (Qr rfl rfl rfl (WpL.nil (Xg rfl (Qb ?_))))))))))))
  refine Qa (Qd rfl rfl (WpL.nil (Qg ?_)))
  apply RetQ.mk
  ·exact (Res.one rfl rfl)
  ·exact ⟨by rw [decide_eq_false (show ¬Yy w h by unfold Yy; omega)], rfl⟩
  ·exact Ent.refl _

theorem rMay03_spec (W H : Int) (a : Option Addr) (n c : Nat) : Fn Tryz.prog 133 #[.agg #[.int .i64 W, .int .i64 H, .slice a n c]] [] (fun v l => v = .bool (decide (Yy W H ∧ (n : Int) = W * H)) ∧ l = []) := by
 refine Qo (vs := [.agg #[.int .i64 W, .int .i64 H, .slice a n c]]) Tryz.func133 rfl Tryz.ntmps133 rfl (Qb (Qa (Xf rfl rfl rfl ?_)))
 intro g1
 refine Qd rfl rfl (WpL.nil (Qb (Qa (Qj (o2 := 0) rfl rfl rfl (Qm rfl rfl (by rfl) ?_)))))
 refine Qj (o2 := 1) rfl rfl rfl (Qm rfl rfl (by rfl) ?_)
 refine Qk rfl rfl (by repeat' constructor) (rSized_spec _ _) ?_
 rintro _ _ ⟨rfl, rfl⟩
 simp only [Qv]
 refine Qd rfl rfl (WpL.nil (Qb (Qb (Qa (Qc rfl rfl (Yt rfl rfl (WpL.nil (Qh rfl (fun h0 => ?_) (fun h0 => ?_)))))))))
 ·refine Qb (Qa (Qd rfl rfl (WpL.nil (Qg ?_))))
  apply RetQ.mk
  ·exact (Res.one rfl rfl)
  ·exact ⟨by rw [decide_eq_false (fun q => absurd q.1 (by assumption))], rfl⟩
  ·exact Ent.nil _
 ·have hsz : Yy W H := Classical.not_not.1 h0
  have hsz2 := hsz
  unfold Yy at hsz2
  have hmb := sz_mul hsz2.1 hsz2.2.1
  refine Wp.skip (Qb (Qa (Qj (o2 := 2) rfl rfl rfl (Qm rfl rfl (by rfl) ?_))))
  refine QO rfl rfl (Qj (o2 := 0) rfl rfl rfl (Qm rfl rfl (by rfl) ?_))
  refine Qj (o2 := 1) rfl rfl rfl (Qm rfl rfl (by rfl) ?_)
  refine XQ rfl rfl rfl (Qp (by omega) (by omega)) ?_
  refine QJ rfl rfl rfl (Qd rfl rfl (WpL.nil (Qg ?_)))
  apply RetQ.mk
  ·exact (Res.one rfl rfl)
  ·exact ⟨congrArg Value.bool (decide_eq_decide.2 ⟨fun q => ⟨hsz, q⟩, fun q => q.2⟩), rfl⟩
  ·exact Ent.nil _

theorem rFits03_spec (As : List HP) (W H : Int) (a : Option Addr) (c : Nat) (px : List Int) (C M : Int) (hA : RdsL As a (XG px)) (hb : ∀ p ∈ px, 0 ≤ p ∧ p < 18446744073709551616) (hl : px.length ≤ 9223372036854775807) : Fn Tryz.prog 86 #[.agg #[.int .i64 W, .int .i64 H, .slice a px.length c], .agg #[.int .i64 C, .int .i64 M]] As (fun v l => v = .bool (decide (FitsM C M W H px)) ∧ l = As) := by
 refine Qo (vs := [.agg #[.int .i64 W, .int .i64 H, .slice a px.length c], .agg #[.int .i64 C, .int .i64 M]]) Tryz.func86 rfl Tryz.ntmps86 rfl (Qb (Qa (Xf rfl rfl rfl ?_)))
 intro gM
 refine Xf rfl rfl rfl ?_
 intro gF
 refine Qd rfl rfl (WpL.nil (Qb (Qa ?_)))
 refine Qz (vs := [_, _, _]) rfl rfl rfl (by rfl) ?_
 refine Qk rfl rfl (by repeat' constructor) (rMay03_spec _ _ _ _ _) ?_
 rintro _ _ ⟨rfl, rfl⟩
 simp only [Qv]
 refine Qd rfl rfl (WpL.nil (Qb (Qb (Qa (Qc rfl rfl (Yt rfl rfl (WpL.nil (Qh rfl (fun h0 => ?_) (fun h0 => ?_)))))))))
 ·refine Qb (Qa (Qd rfl rfl (WpL.nil (Qg ?_))))
  apply RetQ.mk
  ·exact (Res.one rfl rfl)
  ·exact ⟨by rw [decide_eq_false (fun q => absurd (⟨q.1, q.2.1⟩ : Yy W H ∧ (px.length : Int) = W * H) (by assumption))], rfl⟩
  ·(repeat (first | exact Ent.refl _ | refine Ent.drop ?_))
 ·have hmy := Classical.not_not.1 h0
  refine Wp.skip (Qb (Qb (Qa (Qd rfl rfl (WpL.nil (Wp.block ?_))))))
  refine Wp.loopD (σ := Nat) (fun k => k ≤ px.length ∧ ∀ p ∈ px.take k, FitP p C M) [4, 6, 7, 12, 13, 14, 15, 16, 17, 18, 19, 20, 21, 22, 23, 24, 25, 26, 27] (fun k => [(6, .int .i64 (k : Int))]) (fun k => QD gF [.int .i64 C, .int .i64 M] 48 :: QD gM [.int .i64 W, .int .i64 H, .slice a px.length c] 69 :: As) (fun k => px.length - k) 0 ?_ (by repeat (first | exact FrLe.nil | refine FrLe.cons rfl ?_)) ?_ ?_
  ·exact ⟨Nat.zero_le _, by simp⟩
  ·exact Ent.refl _
  ·rintro k ⟨hk, hfi⟩
   refine Qb (Qb (Qa (Qc rfl rfl (Qj (o2 := 2) rfl rfl rfl (Qm rfl rfl (by rfl) ?_)))))
   refine QO rfl rfl (Xc rfl rfl rfl (WpL.nil (Qh rfl (fun h2 => ?_) (fun h2 => ?_))))
   ·have hlt : k < px.length := by omega
    have hpb := hb _ (List.getElem_mem hlt)
    refine Wp.skip (Qb (Wp.block ?_))
    refine Qb ?_
    apply Q3 mixed [⟨19, _, []⟩, ⟨20, _, [0]⟩, ⟨21, _, []⟩, ⟨22, _, [1, 2]⟩, ⟨23, _, [3]⟩, ⟨24, _, []⟩, ⟨25, _, [4, 5]⟩, ⟨7, _, [6, 0, 1, 2, 3, 4, 5]⟩] rfl
    ·refine AllObs.mk ?_ ?_
     ·exact Qj (o2 := 2) rfl rfl rfl (Qn rfl)
     refine AllObs.mk ?_ ?_
     ·refine Qm rfl rfl (by rfl) ?_
      exact Qn rfl
     refine AllObs.mk ?_ ?_
     ·exact Qc rfl rfl (Qn rfl)
     refine AllObs.mk ?_ ?_
     ·refine Xs k rfl rfl rfl hA (by (repeat (first | exact Ent.refl _ | refine Ent.drop ?_))) rfl (by omega) (by rw [Zf]; omega) ?_
      exact Qn rfl
     refine AllObs.mk ?_ ?_
     ·refine Xv rfl rfl hA (by (repeat (first | exact Ent.refl _ | refine Ent.drop ?_))) (pxs_at px hlt) ?_
      exact Qn rfl
     refine AllObs.mk ?_ ?_
     ·refine Qz (vs := [_, _]) rfl rfl rfl (by rfl) ?_
      exact Qn rfl
     refine AllObs.mk ?_ ?_
     ·refine Qk rfl rfl (by repeat' constructor) (rFits_spec _ _ _ hpb.1 hpb.2) ?_
      rintro _ _ ⟨rfl, rfl⟩
      simp only [Qv]
      exact WpL.nil ⟨rfl, rfl, rfl, by exact Ent.refl _⟩
     refine AllObs.mk ?_ ?_
     ·exact Qd rfl rfl (Qn rfl)
     exact AllObs.nil
    ·refine Qb (Qa (Qc rfl rfl (Yt rfl rfl (WpL.nil (Qh rfl (fun h3 => ?_) (fun h3 => ?_))))))
     ·refine Qb (Qa (Qd rfl rfl (WpL.nil (Qg ?_))))
      apply RetQ.mk
      ·exact (Res.one rfl rfl)
      ·exact ⟨by rw [decide_eq_false (fun q => absurd (q.2.2 _ (List.getElem_mem hlt)) (by assumption))], rfl⟩
      ·(repeat (first | exact Ent.refl _ | refine Ent.drop ?_))
     ·refine Wp.skip (Qa (Qc rfl rfl (Qx rfl rfl rfl (Qp (by omega) (by omega)) ?_)))
      refine Qd rfl rfl (WpL.nil (Qq (k + 1) ?_ ?_ (by ((repeat (first | exact Top.refl | refine Top.push rfl ?_)); done)) (by repeat (first | exact FrLe.nil | refine FrLe.cons rfl ?_)) ?_))
      ·refine ⟨by omega, ?_⟩
       rw [Yf px hlt]
       intro q hq
       rcases List.mem_append.1 hq with hq | hq
       ·exact hfi q hq
       ·rw [List.mem_singleton.1 hq]; exact Classical.not_not.1 (by assumption)
      ·omega
      ·exact Ent.refl _
   ·refine QV (Qb (Qa (Qd rfl rfl (WpL.nil (Qg ?_)))))
    apply RetQ.mk
    ·exact (Res.one rfl rfl)
    ·have hkE : k = px.length := by omega
     rw [hkE, List.take_length] at hfi
     exact ⟨by rw [decide_eq_true (p := FitsM C M W H px) ⟨hmy.1, hmy.2, hfi⟩], rfl⟩
    ·(repeat (first | exact Ent.refl _ | refine Ent.drop ?_))

theorem rMay10_spec (As : List HP) (C M W H : Int) (a : Option Addr) (c : Nat) (px : List Int) (hA : RdsL As a (XG px)) (hb : ∀ p ∈ px, 0 ≤ p ∧ p < 18446744073709551616) (hl : px.length ≤ 9223372036854775807) : Fn Tryz.prog 47 #[.agg #[.int .i64 C, .int .i64 M, .int .i64 W, .int .i64 H, .slice a px.length c]] As (fun v l => v = .bool (decide (FitsM C M W H px)) ∧ l = As) := by
 refine Qo (vs := [.agg #[.int .i64 C, .int .i64 M, .int .i64 W, .int .i64 H, .slice a px.length c]]) Tryz.func47 rfl Tryz.ntmps47 rfl (Qb (Qa (Xf rfl rfl rfl ?_)))
 intro gI
 refine Qd rfl rfl (WpL.nil (Qb (Qa (Qj (o2 := 2) rfl rfl rfl ?_))))
 refine Qz (vs := [_, _, _]) rfl rfl rfl (by rfl) ?_
 refine Qj (o2 := 0) rfl rfl rfl ?_
 refine Qz (vs := [_, _]) rfl rfl rfl (by rfl) ?_
 refine Qk rfl rfl (Take.underL [_] As) (rFits03_spec As W H a c px C M hA hb hl) ?_
 rintro _ _ ⟨rfl, rfl⟩
 refine Qd rfl rfl (WpL.nil (Qg ?_))
 apply RetQ.mk
 ·exact (Res.one rfl rfl)
 ·exact ⟨rfl, rfl⟩
 ·exact Ent.left _ _

theorem rTells_spec (As : List HP) (C M W H : Int) (a : Option Addr) (c : Nat) (px : List Int) (hA : RdsL As a (XG px)) (hb : ∀ p ∈ px, 0 ≤ p ∧ p < 18446744073709551616) (hl : px.length ≤ 9223372036854775807) (k : Int) : Fn Tryz.prog 67 #[.agg #[.int .i64 C, .int .i64 M, .int .i64 W, .int .i64 H, .slice a px.length c], .int .i64 k] As (fun v l => v = .bool (decide (k ∈ Xi C M ∧ FitsM C M W H px)) ∧ l = As) := by
 refine Qo (vs := [.agg #[.int .i64 C, .int .i64 M, .int .i64 W, .int .i64 H, .slice a px.length c], .int .i64 k]) Tryz.func67 rfl Tryz.ntmps67 rfl (Qb (Qa (Xf rfl rfl rfl ?_)))
 intro gI
 refine Qd rfl rfl (WpL.nil (Qb (Qa (Qj (o2 := 0) rfl rfl rfl ?_))))
 refine Qz (vs := [_, _]) rfl rfl rfl (by rfl) ?_
 refine Qk rfl rfl (by repeat' constructor) (rKinds10_spec _ _) ?_
 rintro _ _ ⟨a9, c9, rfl, rfl⟩
 simp only [Qv]
 refine Qd rfl rfl (WpL.nil (Qb (Qb (Qa (Qd rfl rfl (WpL.nil (Wp.block ?_)))))))
 have hk7 := kinds_len (C := C) (M := M)
 refine Wp.loopD (σ := Nat) (fun i => i ≤ (Xi C M).length ∧ ∀ q ∈ (Xi C M).take i, q ≠ k) [4, 6, 10, 11, 12, 13, 14, 15, 16, 17, 18, 19, 20, 21, 22, 23] (fun i => [(6, .int .i64 (i : Int))]) (fun i => own 3 1 a9 c9 (Xi C M).length (Q2 (Xi C M)) :: QD gI [.int .i64 C, .int .i64 M, .int .i64 W, .int .i64 H, .slice a px.length c] 71 :: As) (fun i => (Xi C M).length - i) 0 ?_ (by repeat (first | exact FrLe.nil | refine FrLe.cons rfl ?_)) ?_ ?_
 ·exact ⟨Nat.zero_le _, by simp⟩
 ·exact Ent.refl _
 ·rintro i ⟨hi, hne⟩
  refine Qb (Qb (Qa (Qc rfl rfl (Qc rfl rfl (QO rfl rfl (Xc rfl rfl rfl (WpL.nil (Qh rfl (fun h1 => ?_) (fun h1 => ?_)))))))))
  ·have hlt : i < (Xi C M).length := by omega
   refine Wp.skip (Qb (Wp.block ?_))
   refine Qb (Qa (Qc rfl rfl (Qc rfl rfl (Xs i rfl rfl rfl (Q4 (T := 3) (s := 1)) (by exact Take.ent' (by repeat' constructor)) rfl (by omega) (by rw [Xm]; omega) ?_))))
   refine Xv rfl rfl (Q4 (T := 3) (s := 1)) (by exact Take.ent' (by repeat' constructor)) (XO (Xi C M) hlt) ?_
   refine Qc rfl rfl (QJ rfl rfl rfl (WpL.nil (Qh rfl (fun h2 => ?_) (fun h2 => ?_))))
   ·have hkm : k ∈ Xi C M := by have q := List.getElem_mem hlt; rwa [show (Xi C M)[i] = k by assumption] at q
    refine Qb (Qa ?_)
    refine Qz (vs := [_, _, _, _, _]) rfl rfl rfl (by rfl) ?_
    refine Qk rfl rfl (Take.underL [_, _] As) (rMay10_spec As C M W H a c px hA hb hl) ?_
    rintro _ _ ⟨rfl, rfl⟩
    refine Qd rfl rfl (WpL.nil (Qg ?_))
    apply RetQ.mk
    ·exact (Res.one rfl rfl)
    ·exact ⟨congrArg Value.bool (decide_eq_decide.2 ⟨fun q => ⟨hkm, q⟩, fun q => q.2⟩), rfl⟩
    ·exact Ent.left _ _
   ·refine Wp.skip (Qa (Qc rfl rfl (Qx rfl rfl rfl (Qp (by omega) (by omega)) ?_)))
    refine Qd rfl rfl (WpL.nil (Qq (i + 1) ?_ ?_ (by ((repeat (first | exact Top.refl | refine Top.push rfl ?_)); done)) (by repeat (first | exact FrLe.nil | refine FrLe.cons rfl ?_)) ?_))
    ·refine ⟨by omega, ?_⟩
     rw [Yf _ hlt]
     intro q hq
     rcases List.mem_append.1 hq with hq | hq
     ·exact hne q hq
     ·rw [List.mem_singleton.1 hq]; assumption
    ·omega
    ·exact Ent.refl _
  ·refine QV (Qb (Qa (Qd rfl rfl (WpL.nil (Qg ?_)))))
   apply RetQ.mk
   ·exact (Res.one rfl rfl)
   ·rw [show i = (Xi C M).length by omega, List.take_length] at hne
    exact ⟨by rw [decide_eq_false (fun q => hne _ q.1 rfl)], rfl⟩
   ·exact Ent.drop (Ent.drop (Ent.refl _))

end Go.Proofs.YtggamdlpiejbiaaGreat
namespace Go.Proofs.YtggamdlpiejbiaaGreat
open Go.RowKit Go.Shelf

theorem Decimal6_spec (n : Int) (h0 : 0 ≤ n) (h1 : n ≤ 1000000) : Fn Tryz.prog 118 #[.int .i64 n] [] (fun v l => ∃ s, v = .string s ∧ QZ s = X0 n.toNat ∧ l = []) := by
 refine Qo (vs := [.int .i64 n]) Tryz.func118 rfl Tryz.ntmps118 rfl (Qb (Qa (Qd rfl rfl (WpL.nil (Qb (Qa (Qc rfl rfl (YO rfl rfl rfl (by omega) (by omega) ?_))))))))
 refine Qd rfl rfl (WpL.nil (Qb (Qb (Qa (Qc rfl rfl (Xc rfl rfl rfl (WpL.nil (QA rfl (by omega) ?_))))))))
 refine Wp.skip (Qb (Qa (Qc rfl rfl (Qx rfl rfl rfl (Qp (by omega) (by omega)) ?_))))
 refine Yk rfl Tryz.underlying3 rfl (w_u8 (by omega) (by omega)) ?_
 refine X7 rfl rfl rfl rfl ?_
 intro g1
 rw [show ([.int .u8 (48 + n % 10)] : List Value) = XY [48 + n % 10] from rfl]
 refine s_b2s (xs := [48 + n % 10]) rfl Tryz.underlying22 Tryz.underlying5 Tryz.underlying9 rfl rfl (Qd rfl rfl (WpL.nil (Qb (Qb (Qa (Qc rfl rfl (XJ rfl rfl rfl (Qc rfl rfl (QB (dj := 18) rfl (decide_eq_true (by omega)) ?_)))))))))
 refine Qf rfl rfl (Qc rfl rfl (Qf rfl rfl (Xc rfl rfl rfl (Qr rfl rfl rfl (WpL.nil (Qh rfl (fun h1 => ?_) (fun h1 => ?_)))))))
 ·refine Qb (Qb (Qa (Qc rfl rfl (Xc rfl rfl rfl (WpL.nil (QA rfl (by omega) ?_))))))
  refine Wp.skip (Qb (Qa (Qc rfl rfl (Qd rfl rfl (WpL.nil (Qg ?_))))))
  apply RetQ.mk
  ·exact (Res.one rfl rfl)
  ·exact ⟨_, rfl, by rw [Zv (by intro x hx; simp at hx; omega), X0, if_pos (by omega)]; congr 1; omega, rfl⟩
  ·exact Ent.nil _
 ·refine Wp.skip (Qb (Qa (Qc rfl rfl (Y2 rfl rfl rfl (by omega) (by omega) (Qp (by omega) (by omega)) ?_))))
  refine Qk rfl rfl (by repeat' constructor) (Decimal6_spec (n / 10) (by omega) (by omega)) ?_
  rintro _ _ ⟨s1, rfl, hs1, rfl⟩
  simp only [Qv]
  have hsz1 : s1.size ≤ 1000001 := by rw [← Xa, hs1]; have := Zh (n / 10).toNat; omega
  refine Qc rfl rfl (Zq rfl rfl rfl (by rw [size_nums]; simp; omega) ?_)
  refine Qd rfl rfl (WpL.nil (Qg ?_))
  apply RetQ.mk
  ·exact (Res.one rfl rfl)
  ·exact ⟨_, rfl, by rw [YA, hs1, Zv (by intro x hx; simp at hx; omega), digs_rec (n := n) (by omega)], rfl⟩
  ·exact Ent.nil _
termination_by n.toNat
decreasing_by omega


def hdW (K W H M : Int) : List Int := [80] ++ X0 K.toNat ++ [10] ++ X0 W.toNat ++ [32] ++ X0 H.toNat ++ [10] ++ (if K = 1 ∨ K = 4 then [] else X0 M.toNat ++ [10])
theorem lit1 (x : UInt8) : (ByteArray.mk #[x]).size = 1 := rfl
theorem ZI (n : Int) (h0 : 0 ≤ n) (h1 : n ≤ 1000000) : Fn Tryz.prog 118 #[.int .i64 n] [] (fun v l => v = .string (strOfNums (X0 n.toNat)) ∧ l = []) := by
  refine Fn.mono (Decimal6_spec n h0 h1) ?_
  rintro v l ⟨s, rfl, hs, rfl⟩
  exact ⟨_, ⟨by rw [bsOf_inj (hs.trans (digs_str _).symm)], rfl⟩, Ent.nil _⟩
theorem digs_sz {n : Int} (h : n ≤ 1000000) : (strOfNums (X0 n.toNat)).size ≤ 1000001 := by
  rw [size_nums]
  have := Zh n.toNat
  omega

theorem rWrite06_spec (K W H M : Int) (hM : XN K W H M) : Fn Tryz.prog 68 #[.agg #[.int .i64 K, .int .i64 W, .int .i64 H, .int .i64 M]] [] (fun v l => ∃ s, QZ s = hdW K W H M ∧ v = .tuple #[.string s, .int .i64 0] ∧ l = []) := by
 have hM2 := hM
 unfold XN at hM2
 have hs1 := digs_sz (n := K) (by omega)
 have hs2 := digs_sz (n := W) (by omega)
 have hs3 := digs_sz (n := H) (by omega)
 have hs4 := digs_sz (n := M) (by omega)
 refine Qo (vs := [.agg #[.int .i64 K, .int .i64 W, .int .i64 H, .int .i64 M]]) Tryz.func68 rfl Tryz.ntmps68 rfl (Qb (Qa (Xf rfl rfl rfl ?_)))
 intro gH
 refine Qd rfl rfl (Qd rfl rfl (WpL.nil (Qb (Qa ?_))))
 refine Qz (vs := [_, _, _, _]) rfl rfl rfl (by rfl) ?_
 refine Qk rfl rfl (by repeat' constructor) (rMay06_spec _ _ _ _) ?_
 rintro _ _ ⟨rfl, rfl⟩
 simp only [Qv]
 refine Qd rfl rfl (WpL.nil (Qb (Qb (Qa (Qc rfl rfl (Yt rfl rfl (WpL.nil (Qh rfl (fun h0 => ?_) (fun h0 => ?_)))))))))
 ·exfalso; exact absurd hM h0
 ·refine Wp.skip (Qb ?_)
  apply Q3 mixed [⟨10, _, []⟩, ⟨11, _, [0]⟩, ⟨12, _, [1]⟩, ⟨13, _, [2]⟩, ⟨14, _, [3]⟩, ⟨15, _, []⟩, ⟨16, _, [5]⟩, ⟨17, _, [6, 2]⟩, ⟨18, _, [4, 7]⟩, ⟨19, _, [8]⟩, ⟨20, _, []⟩, ⟨21, _, [10]⟩, ⟨22, _, [11, 7]⟩, ⟨23, _, [9, 12]⟩, ⟨24, _, [13]⟩, ⟨5, _, [14, 12, 0, 1, 2, 3, 4, 5, 6, 7, 8, 9, 10, 11, 13]⟩] rfl
  ·refine AllObs.mk ?_ ?_
   ·exact Qj (o2 := 0) rfl rfl rfl (Qn rfl)
   refine AllObs.mk ?_ ?_
   ·refine Qm rfl rfl (by rfl) ?_
    exact Qn rfl
   refine AllObs.mk ?_ ?_
   ·refine Qk rfl rfl (by repeat' constructor) (ZI _ (by omega) (by omega)) ?_
    rintro _ _ ⟨rfl, rfl⟩
    simp only [Qv]
    exact WpL.nil ⟨rfl, rfl, rfl, by exact Ent.refl _⟩
   refine AllObs.mk ?_ ?_
   ·refine Zq rfl rfl rfl (by simp only [lit1]; omega) ?_
    exact Qn rfl
   refine AllObs.mk ?_ ?_
   ·refine Zq rfl rfl rfl (by simp only [ByteArray.size_append, lit1]; omega) ?_
    exact Qn rfl
   refine AllObs.mk ?_ ?_
   ·exact Qj (o2 := 1) rfl rfl rfl (Qn rfl)
   refine AllObs.mk ?_ ?_
   ·refine Qm rfl rfl (by rfl) ?_
    exact Qn rfl
   refine AllObs.mk ?_ ?_
   ·refine Qk rfl rfl (by repeat' constructor) (ZI _ (by omega) (by omega)) ?_
    rintro _ _ ⟨rfl, rfl⟩
    simp only [Qv]
    exact WpL.nil ⟨rfl, rfl, rfl, by exact Ent.refl _⟩
   refine AllObs.mk ?_ ?_
   ·refine Zq rfl rfl rfl (by simp only [ByteArray.size_append, lit1]; omega) ?_
    exact Qn rfl
   refine AllObs.mk ?_ ?_
   ·refine Zq rfl rfl rfl (by simp only [ByteArray.size_append, lit1]; omega) ?_
    exact Qn rfl
   refine AllObs.mk ?_ ?_
   ·exact Qj (o2 := 2) rfl rfl rfl (Qn rfl)
   refine AllObs.mk ?_ ?_
   ·refine Qm rfl rfl (by rfl) ?_
    exact Qn rfl
   refine AllObs.mk ?_ ?_
   ·refine Qk rfl rfl (by repeat' constructor) (ZI _ (by omega) (by omega)) ?_
    rintro _ _ ⟨rfl, rfl⟩
    simp only [Qv]
    exact WpL.nil ⟨rfl, rfl, rfl, by exact Ent.refl _⟩
   refine AllObs.mk ?_ ?_
   ·refine Zq rfl rfl rfl (by simp only [ByteArray.size_append, lit1]; omega) ?_
    exact Qn rfl
   refine AllObs.mk ?_ ?_
   ·refine Zq rfl rfl rfl (by simp only [ByteArray.size_append, lit1]; omega) ?_
    exact Qn rfl
   refine AllObs.mk ?_ ?_
   ·exact Qd rfl rfl (Qn rfl)
   exact AllObs.nil
  ·refine Qb (Qb (Qa (Qj (o2 := 0) rfl rfl rfl (Qm rfl rfl (by rfl) ?_))))
   refine Qk rfl rfl (by repeat' constructor) (Vk _) ?_
   rintro _ _ ⟨rfl, rfl⟩
   simp only [Qv]
   refine Yt rfl rfl (WpL.nil (Qh rfl (fun h1 => ?_) (fun h1 => ?_)))
   ·refine Qa (Qc rfl rfl (Qj (o2 := 3) rfl rfl rfl (Qm rfl rfl (by rfl) ?_)))
    refine Qk rfl rfl (by repeat' constructor) (ZI _ (by omega) (by omega)) ?_
    rintro _ _ ⟨rfl, rfl⟩
    simp only [Qv]
    refine Zq rfl rfl rfl (by simp only [ByteArray.size_append, lit1]; omega) ?_
    refine Zq rfl rfl rfl (by simp only [ByteArray.size_append, lit1]; omega) ?_
    refine Qd rfl rfl (WpL.nil (Qb (Qa (Qc rfl rfl (Qd rfl rfl (Qd rfl rfl (WpL.nil (Qg ?_))))))))
    apply RetQ.mk
    ·exact (QX rfl rfl rfl)
    ·exact ⟨_, by simp only [YA, digs_str]; rw [hdW, if_neg (by assumption)]; simp [QZ], rfl, rfl⟩
    ·exact Ent.nil _
   ·refine Wp.skip (Qb (Qa (Qc rfl rfl (Qd rfl rfl (Qd rfl rfl (WpL.nil (Qg ?_)))))))
    apply RetQ.mk
    ·exact (QX rfl rfl rfl)
    ·exact ⟨_, by simp only [YA, digs_str]; rw [hdW, if_pos (Classical.not_not.1 (by assumption))]; simp [QZ], rfl, rfl⟩
    ·exact Ent.nil _

end Go.Proofs.YtggamdlpiejbiaaGreat
namespace Go.Proofs.YtggamdlpiejbiaaGreat
open Go.RowKit Go.Shelf


/-- The bits of a byte so far. -/
def hv (l : List Int) (j : Nat) : Nat → Int
  | 0 => 0
  | t + 1 => hv l j t * 2 + (l[8 * j + t]?.getD 0)
theorem hv_T {l : List Int} {j t : Nat} (h : 8 * j + t < l.length) : hv l j (t + 1) = hv l j t * 2 + l[8 * j + t] := by
  rw [hv, List.getElem?_eq_getElem h]
  rfl
theorem hv_F {l : List Int} {j t : Nat} (h : l.length ≤ 8 * j + t) : hv l j (t + 1) = hv l j t * 2 := by
  rw [hv, List.getElem?_eq_none h]
  simp
theorem hv_pow {l : List Int} (h : ∀ x ∈ l, bitv x) (j : Nat) : ∀ t, 0 ≤ hv l j t ∧ hv l j t < 2 ^ t
  | 0 => by simp [hv]
  | t + 1 => by
    have ih := hv_pow h j t
    have h2 : (2 : Int) ^ (t + 1) = 2 ^ t * 2 := Int.pow_succ ..
    rcases Nat.lt_or_ge (8 * j + t) l.length with hl | hl
    · rw [hv_T hl, h2]
      have hb := h _ (List.getElem_mem hl)
      unfold bitv at hb
      omega
    · rw [hv_F hl, h2]
      omega
theorem hv_bd {l : List Int} (h : ∀ x ∈ l, bitv x) (j : Nat) {t : Nat} (ht : t ≤ 8) : 0 ≤ hv l j t ∧ hv l j t ≤ 255 := by
  have h1 := hv_pow h j t
  have h2 : (2 : Int) ^ t ≤ 256 := (show ∀ s : Fin 9, (2 : Int) ^ s.val ≤ 256 by decide) ⟨t, by omega⟩
  omega
theorem hv_8 (l : List Int) (j : Nat) : hv l j 8 = ZA l j := by
  unfold ZA byteOf
  simp only [hv, ← List.getElem?_drop]
  generalize l.drop (8 * j) = ys
  rcases ys with _ | ⟨a, _ | ⟨b, _ | ⟨c, _ | ⟨d, _ | ⟨e, _ | ⟨f, _ | ⟨g, _ | ⟨h, ys⟩⟩⟩⟩⟩⟩⟩⟩ <;> simp only [bw, List.getElem?_cons_zero, List.getElem?_cons_succ, List.getElem?_nil, Option.getD_some, Option.getD_none, List.take_succ_cons, List.take_nil, List.take_zero, Nat.reduceSub, Int.reducePow] <;> omega
theorem packB_end {l : List Int} {k : Nat} (h : l.length ≤ 8 * k) (hk : k ≤ (l.length + 7) / 8) : (List.range k).map (ZA l) = Zj l := by rw [Zj, show k = (l.length + 7) / 8 by omega]

theorem rPack07_spec (A0 : HP) (a0 : Option Addr) (c0 : Nat) (row : List Int) (hA : RdsL [A0] a0 (Q2 row)) (hb : ∀ x ∈ row, bitv x) (h1 : 1 ≤ row.length) (h2 : row.length ≤ 4096) : Fn Tryz.prog 121 #[.slice a0 row.length c0] [A0] (fun v l => ∃ a c, v = .tuple #[.slice a (Zj row).length c, .int .i64 0] ∧ l = [own 5 1 a c (Zj row).length (XY (Zj row)), A0]) := by
 refine Qo (vs := [.slice a0 row.length c0]) Tryz.func121 rfl Tryz.ntmps121 rfl (Qb (Qa (Qd rfl rfl (Qd rfl rfl (WpL.nil (Qb (Qb (Qa (Qc rfl rfl (QO rfl rfl (Xc rfl rfl rfl (Qc rfl rfl ?_))))))))))))
 refine QM (dj := 11) rfl (decide_eq_false (by omega)) ?_
 refine Qf rfl rfl (Qc rfl rfl (Qf rfl rfl (QO rfl rfl (Qf rfl rfl (XJ rfl rfl rfl (Qu rfl rfl rfl (WpL.nil (Qh rfl (fun h0 => ?_) (fun h0 => ?_)))))))))
 ·exfalso; omega
 ·refine Wp.skip (Qb (Qa (Qd rfl rfl (WpL.nil (Qb (Qb (Qa (Qd rfl rfl (WpL.nil (Wp.block ?_))))))))))
  refine Wp.loopD (σ := KdX) (fun x => x.k ≤ (row.length + 7) / 8 ∧ x.out = (List.range x.k).map (ZA row)) [2, 3, 4, 5, 6, 7, 16, 17, 18, 19, 20, 21, 22, 23, 24, 25, 26, 27, 28, 29, 30, 31, 32, 33, 34, 35, 36, 37, 38, 39, 40, 41, 42, 43, 44, 45, 46, 47, 48, 49, 50, 51, 52, 53, 54, 55, 56, 57] (fun x => [(5, .int .i64 (8 * (x.k : Int))), (4, .slice x.a x.out.length x.c)]) (fun x => [own 5 1 x.a x.c x.out.length (XY x.out), A0]) (fun x => (row.length + 7) / 8 - x.k) ⟨0, [], none, 0⟩ ?_ (by repeat (first | exact FrLe.nil | refine FrLe.cons rfl ?_)) ?_ ?_
  ·exact ⟨Nat.zero_le _, rfl⟩
  ·exact Ent.own_nil (Ent.refl _)
  ·rintro ⟨k, out, a, c⟩ ⟨hk, ho⟩
   dsimp only at hk ho ⊢
   have hol : out.length = k := by rw [ho]; simp
   refine Qb (Qb (Qa (Qc rfl rfl (Qc rfl rfl (QO rfl rfl (Xc rfl rfl rfl (WpL.nil (Qh rfl (fun h2 => ?_) (fun h2 => ?_)))))))))
   ·have hlt : 8 * k < row.length := by omega
    refine Wp.skip (Qb (Wp.block ?_))
    refine Qb (Qa (Qd rfl rfl (WpL.nil (Qb (Qb (Qa (Qc rfl rfl (Qd rfl rfl (WpL.nil (Wp.block ?_))))))))))
    refine Wp.loopD (σ := Nat) (fun t => t ≤ 8) [2, 3, 6, 7, 23, 24, 25, 26, 27, 28, 29, 30, 31, 32, 33, 34, 35, 36, 37, 38, 39, 40, 41, 42, 43, 44, 45, 46, 47, 48, 49, 50, 51, 52] (fun t => [(7, .int .i64 (8 * (k : Int) + (t : Int))), (6, .int .i64 (hv row k t))]) (fun t => [own 5 1 a c out.length (XY out), A0]) (fun t => 8 - t) 0 ?_ (FrLe.cons (by first | exact congrArg (fun z => some (Value.int .i64 z)) (show 8 * (k : Int) = 8 * (k : Int) + ((0 : Nat) : Int) by omega)) (FrLe.cons rfl FrLe.nil)) ?_ ?_
    ·exact Nat.zero_le _
    ·exact Ent.refl _
    ·rintro t ht
     have hvb := hv_bd hb k ht
     refine Qb (Qb (Qa (Qc rfl rfl (Qc rfl rfl (Qx rfl rfl rfl (Qp (by omega) (by omega)) ?_)))))
     refine Xc rfl rfl rfl (WpL.nil (Qh rfl (fun h4 => ?_) (fun h4 => ?_)))
     ·have ht7 : t < 8 := by omega
      refine Wp.skip (Qb (Wp.block ?_))
      refine Qb (Qa (Qc rfl rfl (XQ rfl rfl rfl (Qp (by omega) (by omega)) ?_)))
      refine Qd rfl rfl (WpL.nil (Qb (Qa (Qc rfl rfl (Qc rfl rfl (QO rfl rfl (Xc rfl rfl rfl (WpL.nil (Qh rfl (fun h5 => ?_) (fun h5 => ?_))))))))))
      ·have hl8 : 8 * k + t < row.length := by omega
       have hbk := hb _ (List.getElem_mem hl8)
       unfold bitv at hbk
       refine Qb (Qb (Qa (Qc rfl rfl (Qc rfl rfl (Xs (8 * k + t) rfl rfl rfl hA (by exact Take.ent' (by repeat' constructor)) (by omega) (by omega) (by rw [Xm]; omega) ?_)))))
       refine Xv rfl rfl hA (by exact Take.ent' (by repeat' constructor)) (XO row hl8) ?_
       refine Xu rfl rfl rfl (Qc rfl rfl (QP rfl rfl rfl (fun hg2 => ?_) (fun hg2 => ?_)))
       ·have hg2 := of_decide_eq_true hg2
        refine Qc rfl rfl (Qf rfl rfl (Qc rfl rfl (Qf rfl rfl (Xs (8 * k + t) rfl rfl rfl hA (by exact Take.ent' (by repeat' constructor)) (by omega) (by omega) (by rw [Xm]; omega) ?_))))
        refine Qf rfl rfl (Xv rfl rfl hA (by exact Take.ent' (by repeat' constructor)) (XO row hl8) ?_)
        refine Qf rfl rfl (Xu rfl rfl rfl (Qr rfl rfl rfl (WpL.nil (Qh rfl (fun h6 => ?_) (fun h6 => ?_)))))
        ·exfalso; omega
        ·refine Wp.skip (Qa (Qc rfl rfl (Qc rfl rfl (Qc rfl rfl (Xs (8 * k + t) rfl rfl rfl hA (by exact Take.ent' (by repeat' constructor)) (by omega) (by omega) (by rw [Xm]; omega) ?_)))))
         refine Xv rfl rfl hA (by exact Take.ent' (by repeat' constructor)) (XO row hl8) ?_
         refine Qx rfl rfl rfl (Qp (by omega) (by omega)) ?_
         refine Qd rfl rfl (WpL.nil (Qa (Qc rfl rfl (Qx rfl rfl rfl (Qp (by omega) (by omega)) ?_))))
         refine Qd rfl rfl (WpL.nil (Qq (t + 1) ?_ ?_ (by ((repeat (first | exact Top.refl | refine Top.push rfl ?_)); done)) (FrLe.cons (by first | exact congrArg (fun z => some (Value.int .i64 z)) (show 8 * (k : Int) + (t : Int) + 1 = 8 * (k : Int) + ((t + 1 : Nat) : Int) by omega)) (FrLe.cons (by exact congrArg (fun z => some (Value.int .i64 z)) ((hv_T hl8).symm)) FrLe.nil)) ?_))
         ·omega
         ·omega
         ·exact Ent.refl _
       ·have hg2 := of_decide_eq_false hg2
        refine Qe rfl rfl rfl (by decide) (Qe rfl rfl rfl (by decide) (Qe rfl rfl rfl (by decide) (Qe rfl rfl rfl (by decide) (Qu rfl rfl rfl (WpL.nil (QS rfl (Wp.skip (Qa (Qc rfl rfl (Qc rfl rfl (Qc rfl rfl (Xs (8 * k + t) rfl rfl rfl hA (by exact Take.ent' (by repeat' constructor)) (by omega) (by omega) (by rw [Xm]; omega) ?_))))))))))))
        refine Xv rfl rfl hA (by exact Take.ent' (by repeat' constructor)) (XO row hl8) ?_
        refine Qx rfl rfl rfl (Qp (by omega) (by omega)) ?_
        refine Qd rfl rfl (WpL.nil (Qa (Qc rfl rfl (Qx rfl rfl rfl (Qp (by omega) (by omega)) ?_))))
        refine Qd rfl rfl (WpL.nil (Qq (t + 1) ?_ ?_ (by ((repeat (first | exact Top.refl | refine Top.push rfl ?_)); done)) (FrLe.cons (by first | exact congrArg (fun z => some (Value.int .i64 z)) (show 8 * (k : Int) + (t : Int) + 1 = 8 * (k : Int) + ((t + 1 : Nat) : Int) by omega)) (FrLe.cons (by exact congrArg (fun z => some (Value.int .i64 z)) ((hv_T hl8).symm)) FrLe.nil)) ?_))
        ·omega
        ·omega
        ·exact Ent.refl _
      ·have hl8 : row.length ≤ 8 * k + t := by omega
       refine Wp.skip (Qa (Qc rfl rfl (Qx rfl rfl rfl (Qp (by omega) (by omega)) ?_)))
       refine Qd rfl rfl (WpL.nil (Qq (t + 1) ?_ ?_ (by ((repeat (first | exact Top.refl | refine Top.push rfl ?_)); done)) (FrLe.cons (by first | exact congrArg (fun z => some (Value.int .i64 z)) (show 8 * (k : Int) + (t : Int) + 1 = 8 * (k : Int) + ((t + 1 : Nat) : Int) by omega)) (FrLe.cons (by exact congrArg (fun z => some (Value.int .i64 z)) (hv_F hl8).symm) FrLe.nil)) ?_))
       ·omega
       ·omega
       ·exact Ent.refl _
     ·obtain rfl : t = 8 := by omega
      rw [hv_8]
      have hbb := byteAt_bd hb k
      refine QV (Qa (Qc rfl rfl (Qc rfl rfl (Yk rfl Tryz.underlying3 rfl (w_u8 (by omega) (by omega)) ?_))))
      refine X7 rfl rfl rfl rfl ?_
      intro g1
      refine XC rfl rfl rfl (by repeat' constructor) (by rfl) (by rfl) (by rfl) (by rfl) (by omega) (by omega) ?_
      intro a57 c57
      rw [u8s_snoc, show out.length + 1 = (out ++ [(ZA row k)]).length from by simp]
      refine Qd rfl rfl (WpL.nil (Qa (Qc rfl rfl (Qx rfl rfl rfl (Qp (by omega) (by omega)) ?_))))
      refine Qd rfl rfl (WpL.nil (Qq (⟨k + 1, out ++ [ZA row k], a57, c57⟩ : KdX) ?_ ?_ (by ((repeat (first | exact Top.refl | refine Top.push rfl ?_)); done)) (FrLe.cons (by first | exact congrArg (fun z => some (Value.int .i64 z)) (show 8 * (k : Int) + 8 = 8 * ((k + 1 : Nat) : Int) by omega)) (FrLe.cons rfl FrLe.nil)) ?_))
      ·exact ⟨by simp only; omega, by simp only; rw [List.range_succ, List.map_append, ho]; rfl⟩
      ·simp only; omega
      ·exact Ent.refl _
   ·have ho2 : out = Zj row := by rw [ho, packB_end (by omega) hk]
    subst ho2
    refine QV (Qb (Qa (Qc rfl rfl (Qd rfl rfl (Qd rfl rfl (WpL.nil (Qg ?_)))))))
    apply RetQ.mk
    ·exact (QX rfl rfl rfl)
    ·exact ⟨a, c, rfl, rfl⟩
    ·exact Ent.refl _

end Go.Proofs.YtggamdlpiejbiaaGreat
namespace Go.Proofs.YtggamdlpiejbiaaGreat
open Go.RowKit Go.Shelf


/-- How far a raw raster's bytes are made. -/
def WrI (K : Int) (W w : Nat) (px : List Int) (i y x : Nat) (out row : List Int) : Prop :=
  (K = 4 ∧ i = y * W + x ∧ x < W ∧ row = ((px.drop (y * W)).take x).flatMap Qw ∧ out = YP K W w px y) ∨ (K ≠ 4 ∧ row = [] ∧ out = ((px.take i).flatMap Qw).flatMap (ZH w))
theorem WrI.zero {K : Int} {W w : Nat} {px : List Int} (hW : 1 ≤ W) : WrI K W w px 0 0 0 [] [] := by
  by_cases h : K = 4
  · exact .inl ⟨h, by simp, by omega, by simp, by simp [YP, ZG]⟩
  · exact .inr ⟨h, rfl, by simp⟩
theorem dt_snoc {px : List Int} {y W x : Nat} (h : y * W + x < px.length) : (px.drop (y * W)).take (x + 1) = (px.drop (y * W)).take x ++ [px[y * W + x]] := by
  rw [Yf _ (by rw [List.length_drop]; omega), List.getElem_drop]
theorem WrI.row {K : Int} {W w : Nat} {px : List Int} {i y x : Nat} {out row : List Int} (h : WrI K W w px i y x out row) (hK : K = 4) (hi : i < px.length) : ((px.drop (y * W)).take (x + 1)).flatMap Qw = row ++ Qw px[i] := by
  rcases h with ⟨_, h1, _, h2, _⟩ | ⟨h1, _⟩
  · subst h1
    rw [dt_snoc hi, List.flatMap_append, h2]
    simp
  · exact absurd hK h1
theorem WrI.four {K : Int} {W w : Nat} {px : List Int} {i y x : Nat} {out row : List Int} (h : WrI K W w px i y x out row) (hK : K = 4) (hi : i < px.length) (hx : x + 1 < W) : WrI K W w px (i + 1) y (x + 1) out (row ++ Qw px[i]) := by
  have hr := h.row hK hi
  rcases h with ⟨_, h1, _, h2, h3⟩ | ⟨h1, _⟩
  · exact .inl ⟨hK, by omega, hx, hr.symm, h3⟩
  · exact absurd hK h1
theorem WrI.full {K : Int} {W w : Nat} {px : List Int} {i y x : Nat} {out row : List Int} (h : WrI K W w px i y x out row) (hK : K = 4) (hi : i < px.length) (hx : x + 1 = W) : WrI K W w px (i + 1) (y + 1) 0 (out ++ Zj (row ++ Qw px[i])) [] := by
  have hr := h.row hK hi
  rcases h with ⟨_, h1, _, h2, h3⟩ | ⟨h1, _⟩
  · refine .inl ⟨hK, by rw [Nat.add_mul]; omega, by omega, by simp, ?_⟩
    rw [wrRaw_succ, h3, ← hr, hx]
    unfold rowB
    rw [if_pos hK]
  · exact absurd hK h1
theorem WrI.more {K : Int} {W w : Nat} {px : List Int} {i y x : Nat} {out row : List Int} (h : WrI K W w px i y x out row) (hK : K ≠ 4) (hi : i < px.length) : WrI K W w px (i + 1) y x (out ++ (Qw px[i]).flatMap (ZH w)) [] := by
  rcases h with ⟨h1, _⟩ | ⟨_, _, h2⟩
  · exact absurd h1 hK
  · refine .inr ⟨hK, rfl, ?_⟩
    rw [Yf px hi, List.flatMap_append, List.flatMap_append, h2]
    simp
theorem WrI.rown {K : Int} {W w : Nat} {px : List Int} {i y x : Nat} {out row : List Int} (h : WrI K W w px i y x out row) (hK : K ≠ 4) : row = [] := by
  rcases h with ⟨h1, _⟩ | ⟨_, h2, _⟩
  · exact absurd h1 hK
  · exact h2
theorem wr_flat {K : Int} {W w : Nat} {px : List Int} (hK : K ≠ 4) : ∀ n, YP K W w px n = ((px.take (n * W)).flatMap Qw).flatMap (ZH w)
  | 0 => by simp [YP, ZG]
  | n + 1 => by
    rw [wrRaw_succ, wr_flat hK n, rowB, if_neg hK, Nat.add_mul, Nat.one_mul, List.take_add, List.flatMap_append, List.flatMap_append]
theorem WrI.done {K : Int} {W w : Nat} {px : List Int} {i y x H : Nat} {out row : List Int} (h : WrI K W w px i y x out row) (hW : 1 ≤ W) (hi : i = px.length) (hp : px.length = W * H) : out = YP K W w px H := by
  rcases h with ⟨_, h1, h2, _, h3⟩ | ⟨h1, _, h2⟩
  · have e : y * W + x = H * W := by rw [← h1, hi, hp, Nat.mul_comm]
    have hy : y = H := by
      rcases Nat.lt_trichotomy y H with hl | hl | hl
      · have := Nat.mul_le_mul_right W (show y + 1 ≤ H from hl)
        rw [Nat.add_mul] at this
        omega
      · exact hl
      · have := Nat.mul_le_mul_right W (show H + 1 ≤ y from hl)
        rw [Nat.add_mul] at this
        omega
    rw [h3, hy]
  · rw [wr_flat h1, h2, hi, Nat.mul_comm H W, ← hp]

end Go.Proofs.YtggamdlpiejbiaaGreat
namespace Go.Proofs.YtggamdlpiejbiaaGreat
open Go.RowKit Go.Shelf

theorem rMay09_spec (K W H M : Int) (hM : RawH K W H M) : Fn Tryz.prog 120 #[.agg #[.int .i64 K, .int .i64 W, .int .i64 H, .int .i64 M]] [] (fun v l => v = .bool true ∧ l = []) := by
 refine Qo (vs := [.agg #[.int .i64 K, .int .i64 W, .int .i64 H, .int .i64 M]]) Tryz.func120 rfl Tryz.ntmps120 rfl (Qb (Qa (Xf rfl rfl rfl ?_)))
 intro gH
 refine Qd rfl rfl (WpL.nil (Qb (Qa ?_)))
 refine Qz (vs := [_, _, _, _]) rfl rfl rfl (by rfl) ?_
 refine Qk rfl rfl (by repeat' constructor) (rMay06_spec _ _ _ _) ?_
 rintro _ _ ⟨rfl, rfl⟩
 simp only [Qv]
 refine Qd rfl rfl (WpL.nil (Qb (Qa (Qc rfl rfl (Qc rfl rfl (QB (dj := 7) rfl (decide_eq_true hM.1) ?_))))))
 refine Qf rfl rfl (Qj (o2 := 0) rfl rfl rfl (Qf rfl rfl (Qm rfl rfl (by rfl) ?_)))
 refine Qf rfl rfl (XJ rfl rfl rfl (Qr rfl rfl rfl (Qd rfl rfl (WpL.nil (Qg ?_)))))
 apply RetQ.mk
 ·exact (Res.one rfl rfl)
 ·exact ⟨congrArg Value.bool (decide_eq_true (by have := hM.2; omega)), rfl⟩
 ·exact Ent.nil _


structure RwX where
  (i y x : Nat) (out row : List Int) (aO : Option Addr) (cO : Nat) (aR : Option Addr) (cR : Nat)
theorem one_list {l : List Int} (h : l.length = 1) (h0 : 0 < l.length) : [l[0]'h0] = l := by
  match l, h with
  | [q], _ => rfl
theorem enc_two {w : Nat} {x : Int} (h : ((w : Nat) : Int) = 2) : ZH w x = [x / 256, x % 256] := by unfold ZH; rw [if_neg (by omega)]
theorem enc_lo {M x : Int} (h : ¬ ((Qi M : Nat) : Int) = 2) (h0 : 0 ≤ x) (h1 : x ≤ M) : ZH (Qi M) x = [x % 256] := by
  unfold Qi at h ⊢
  split at h
  · exact absurd rfl h
  · rename_i hm
    rw [if_neg hm]
    unfold ZH
    rw [if_pos rfl]
    congr 1
    omega

set_option maxHeartbeats 2000000 in
theorem rWrite09_spec (A0 : HP) (a0 : Option Addr) (c0 : Nat) (px : List Int) (hA : RdsL [A0] a0 (XG px)) (hr : ∀ p ∈ px, 0 ≤ p ∧ p < 18446744073709551616) (K : Int) (W H : Nat) (M : Int) (hR : RawH K (W : Int) (H : Int) M) (hpl : px.length = W * H) (hfit : ∀ p ∈ px, FitP p (QT K) M) (hl : px.length ≤ 1000000) : Fn Tryz.prog 70 #[.slice a0 px.length c0, .agg #[.int .i64 K, .int .i64 (W : Int), .int .i64 (H : Int), .int .i64 M]] [A0] (fun v l => ∃ a c, v = .tuple #[.slice a (YP K W (Qi M) px H).length c, .int .i64 0] ∧ l = [own 5 1 a c (YP K W (Qi M) px H).length (XY (YP K W (Qi M) px H)), A0]) := by
 have hM2 := hR.1
 unfold XN at hM2
 have hcn : ∀ p ∈ px, Can (QT K) M p := fun p hp => can_of_fit (hr p hp).1 (hr p hp).2 (hfit p hp)
 have hpl2 : (px.length : Int) = (W : Int) * (H : Int) := by rw [hpl]; push_cast; rfl
 refine Qo (vs := [.slice a0 px.length c0, .agg #[.int .i64 K, .int .i64 (W : Int), .int .i64 (H : Int), .int .i64 M]]) Tryz.func70 rfl Tryz.ntmps70 rfl (Qb (Qa (Xf rfl rfl rfl ?_)))
 intro gH
 refine Qd rfl rfl (Qd rfl rfl (WpL.nil (Qb (Qa ?_))))
 refine Qz (vs := [_, _, _, _]) rfl rfl rfl (by rfl) ?_
 refine Qk rfl rfl (by repeat' constructor) (rMay09_spec _ _ _ _ hR) ?_
 rintro _ _ ⟨rfl, rfl⟩
 simp only [Qv]
 refine Qd rfl rfl (WpL.nil (Qb (Qb (Qa (Qc rfl rfl (ZR rfl rfl (WpL.nil (ZY rfl (by decide) (Wp.skip (Qb (Qb (Qa ?_))))))))))))
 refine Qc rfl rfl (QO rfl rfl (Qj (o2 := 1) rfl rfl rfl (Qm rfl rfl (by rfl) ?_)))
 refine Qj (o2 := 2) rfl rfl rfl (Qm rfl rfl (by rfl) ?_)
 refine XQ rfl rfl rfl (Qp (by omega) (by omega)) ?_
 rw [← hpl2]
 refine Xu rfl rfl rfl (WpL.nil (QA rfl (fun hn => hn rfl) ?_))
 refine Wp.skip (Qb (Qa (Qd rfl rfl (WpL.nil (Qb (Qa (Qd rfl rfl (WpL.nil (Qb (Qb (Qa (Qd rfl rfl ?_))))))))))))
 refine WpL.nil (Wp.block ?_)
 refine Wp.loopD (σ := RwX) (fun x => x.i ≤ px.length ∧ WrI K W (Qi M) px x.i x.y x.x x.out x.row ∧ x.out.length + x.row.length ≤ 6 * x.i ∧ (K = 4 → x.row.length = x.x)) [4, 5, 7, 8, 9, 10, 11, 12, 13, 14, 27, 28, 29, 30, 31, 32, 33, 34, 35, 36, 37, 38, 39, 40, 41, 42, 43, 44, 45, 46, 47, 48, 49, 50, 51, 52, 53, 54, 55, 56, 57, 58, 59, 60, 61, 62, 63, 64, 65, 66, 67, 68, 69, 70, 71, 72, 73, 74, 75, 76, 77, 78, 79, 80, 81, 82, 83, 84, 85, 86, 87, 88, 89, 90, 91, 92, 93, 94, 95] (fun x => [(9, .int .i64 (x.i : Int)), (8, .slice x.aR x.row.length x.cR), (7, .slice x.aO x.out.length x.cO)]) (fun x => [own 5 1 x.aO x.cO x.out.length (XY x.out), own 3 1 x.aR x.cR x.row.length (Q2 x.row), QD gH [.int .i64 K, .int .i64 (W : Int), .int .i64 (H : Int), .int .i64 M] 113, A0]) (fun x => px.length - x.i) ⟨0, 0, 0, [], [], none, 0, none, 0⟩ ?_ (by repeat (first | exact FrLe.nil | refine FrLe.cons rfl ?_)) ?_ ?_
 ·exact ⟨Nat.zero_le _, WrI.zero (by omega), by simp, fun _ => rfl⟩
 ·exact Ent.own_nil (Ent.own_nil (Ent.refl _))
 ·rintro ⟨i, y, x, out, row, aO, cO, aR, cR⟩ ⟨hi, hI, hlen, hrl⟩
  dsimp only at hi hI hlen hrl ⊢
  refine Qb (Qb (Qa (Qc rfl rfl (Qc rfl rfl (QO rfl rfl (Xc rfl rfl rfl (WpL.nil (Qh rfl (fun h3 => ?_) (fun h3 => ?_)))))))))
  ·have hlt : i < px.length := by omega
   have hpb := hr _ (List.getElem_mem hlt)
   have hcan := hcn _ (List.getElem_mem hlt)
   have hul := unpackS_len px[i]
   refine Wp.skip (Qb (Wp.block ?_))
   refine Qb ?_
   apply Q3 mixed [⟨33, _, []⟩, ⟨34, _, []⟩, ⟨35, _, [0, 1]⟩, ⟨36, _, [2]⟩, ⟨37, _, []⟩, ⟨38, _, [4]⟩, ⟨39, _, [3, 5]⟩, ⟨10, _, [6, 0, 1, 2, 3, 4, 5]⟩] rfl
   ·refine AllObs.mk ?_ ?_
    ·exact Qc rfl rfl (Qn rfl)
    refine AllObs.mk ?_ ?_
    ·exact Qc rfl rfl (Qn rfl)
    refine AllObs.mk ?_ ?_
    ·refine Xs i rfl rfl rfl hA (by exact Take.ent' (by repeat' constructor)) rfl (by omega) (by rw [Zf]; omega) ?_
     exact Qn rfl
    refine AllObs.mk ?_ ?_
    ·refine Xv rfl rfl hA (by exact Take.ent' (by repeat' constructor)) (pxs_at px hlt) ?_
     exact Qn rfl
    refine AllObs.mk ?_ ?_
    ·refine Qz (vs := [_, _, _, _]) rfl rfl rfl (by rfl) ?_
     exact Qn rfl
    refine AllObs.mk ?_ ?_
    ·refine Qk rfl rfl (by repeat' constructor) (Za _ _ _ _ (by omega) (by omega)) ?_
     rintro _ _ ⟨rfl, rfl⟩
     simp only [Qv]
     exact WpL.nil ⟨rfl, rfl, rfl, by exact Ent.refl _⟩
    refine AllObs.mk ?_ ?_
    ·refine Qk rfl rfl (by repeat' constructor) (rFits_spec _ _ _ hpb.1 hpb.2) ?_
     rintro _ _ ⟨rfl, rfl⟩
     simp only [Qv]
     exact WpL.nil ⟨rfl, rfl, rfl, by exact Ent.refl _⟩
    refine AllObs.mk ?_ ?_
    ·exact Qd rfl rfl (Qn rfl)
    exact AllObs.nil
   ·refine Qb (Qb (Qa (Qc rfl rfl (Yt rfl rfl (WpL.nil (Qh rfl (fun h4 => ?_) (fun h4 => ?_)))))))
    ·exfalso; exact absurd (hfit _ (List.getElem_mem hlt)) (by assumption)
    ·refine Wp.skip (Qb (Qa (Qc rfl rfl (Qc rfl rfl (Xs i rfl rfl rfl hA (by exact Take.ent' (by repeat' constructor)) rfl (by omega) (by rw [Zf]; omega) ?_)))))
     refine Xv rfl rfl hA (by exact Take.ent' (by repeat' constructor)) (pxs_at px hlt) ?_
     refine Qk rfl rfl (by repeat' constructor) (Vj _ hpb.1 hpb.2) ?_
     rintro _ _ ⟨A1, a1, c1, rfl, rfl, hA1, hn1⟩
     simp only [Qv]
     refine Qd rfl rfl (WpL.nil (Qb (Qb (Qa (Qj (o2 := 0) rfl rfl rfl (Qm rfl rfl (by rfl) ?_))))))
     refine QJ rfl rfl rfl (WpL.nil (Qh rfl (fun h5 => ?_) (fun h5 => ?_)))
     ·have hM1 : M = 1 := by omega
      have hc4 : QT K = 1 := by rw [h5]; rfl
      have hu1 : (Qw px[i]).length = 1 := by have := hcan.1; omega
      have hu0 : 0 < (Qw px[i]).length := by omega
      have hus : [(Qw px[i])[0]'hu0] = (Qw px[i]) := one_list hu1 hu0
      have hbits : ∀ q ∈ row ++ (Qw px[i]), bitv q := fun q hq => by
       rw [← hI.row h5 hlt] at hq
       obtain ⟨p, hp, hq⟩ := List.mem_flatMap.1 hq
       have h9 := (hcn p (List.mem_of_mem_drop (List.mem_of_mem_take hp))).2.2 q hq
       unfold bitv
       omega
      have hrx := hrl h5
      refine Qb (Qa (Qc rfl rfl (Qc rfl rfl (Xs 0 rfl rfl rfl hA1 (by exact Take.ent' (by repeat' constructor)) rfl (by omega) (by rw [Xm]; omega) ?_))))
      refine Xv rfl rfl hA1 (by exact Take.ent' (by repeat' constructor)) (XO (Qw px[i]) hu0) ?_
      refine X7 rfl rfl rfl rfl ?_
      intro g2
      refine XC rfl rfl rfl (by repeat' constructor) (by rfl) (by rfl) (by rfl) (by rfl) (by omega) (by omega) ?_
      intro a55 c55
      rw [X3, show row.length + 1 = (row ++ [((Qw px[i])[0]'hu0)]).length from by simp]
      rw [hus]
      refine Qd rfl rfl (WpL.nil (Qb (Qb (Qa (Qc rfl rfl (QO rfl rfl (Qj (o2 := 1) rfl rfl rfl (Qm rfl rfl (by rfl) ?_))))))))
      refine QJ rfl rfl rfl (WpL.nil (Qh rfl (fun h6 => ?_) (fun h6 => ?_)))
      ·have hxW : x + 1 = W := by simp only [List.length_append] at h6; omega
       refine Qb (Qa (Qc rfl rfl (Qk rfl rfl (by repeat' constructor) (rPack07_spec _ a55 c55 (row ++ (Qw px[i])) Q4 hbits (by simp only [List.length_append]; omega) (by simp only [List.length_append]; omega)) ?_)))
       rintro _ _ ⟨aP, cP, rfl, rfl⟩
       simp only [Qv]
       have hpkl := Z6 (row ++ (Qw px[i]))
       rw [List.length_append] at hpkl
       refine Qc rfl rfl (QL rfl rfl rfl (QL rfl rfl rfl (Qd rfl rfl (Qd rfl rfl (WpL.nil (Qb (Qa (Qc rfl rfl (Qc rfl rfl (s_appo rfl rfl rfl (by repeat' constructor) (by rfl) (by rfl) (u8s_one _) (by omega) (by omega) ?_))))))))))
       intro a68 c68
       rw [u8s_app, ← List.length_append]
       refine Qd rfl rfl (WpL.nil (Qa (Qd rfl rfl (WpL.nil (QV (Qa (Qc rfl rfl (Qx rfl rfl rfl (Qp (by omega) (by omega)) ?_))))))))
       refine Qd rfl rfl (WpL.nil (Qq (⟨i + 1, y + 1, 0, out ++ Zj (row ++ (Qw px[i])), [], a68, c68, none, 0⟩ : RwX) ?_ ?_ (by ((repeat (first | exact Top.refl | refine Top.push rfl ?_)); done)) (by repeat (first | exact FrLe.nil | refine FrLe.cons rfl ?_)) ?_))
       ·exact ⟨by simp only; omega, hI.full h5 hlt (by omega), by simp only [List.length_append, List.length_nil, Z6]; omega, fun _ => rfl⟩
       ·simp only; omega
       ·refine Ent.trans (m := [own 5 1 a68 c68 (out ++ Zj (row ++ (Qw px[i]))).length (XY (out ++ Zj (row ++ (Qw px[i])))), QD gH [.int .i64 K, .int .i64 (W : Int), .int .i64 (H : Int), .int .i64 M] 113, A0]) (Take.ent' (by repeat' constructor)) (Ent.cons (Ent.own_nil (Ent.refl _)))
      ·have hxW : x + 1 ≠ W := fun q => h6 (by simp only [List.length_append]; omega)
       have hxl : x < W := by rcases hI with ⟨_, _, q, _⟩ | ⟨q, _⟩; exact q; exact absurd h5 q
       refine Wp.skip (QV (Qa (Qc rfl rfl (Qx rfl rfl rfl (Qp (by omega) (by omega)) ?_))))
       refine Qd rfl rfl (WpL.nil (Qq (⟨i + 1, y, x + 1, out, row ++ (Qw px[i]), aO, cO, a55, c55⟩ : RwX) ?_ ?_ (by ((repeat (first | exact Top.refl | refine Top.push rfl ?_)); done)) (by repeat (first | exact FrLe.nil | refine FrLe.cons rfl ?_)) ?_))
       ·exact ⟨by simp only; omega, hI.four h5 hlt (by omega), by simp only [List.length_append]; omega, fun q => by simp only [List.length_append]; have := hrl q; omega⟩
       ·simp only; omega
       ·exact Take.ent' (by repeat' constructor)
     ·have hrn := hI.rown h5
      subst hrn
      refine Wp.skip (Qb (Qa (Qd rfl rfl (WpL.nil (Wp.block ?_)))))
      refine Wp.loopD (σ := KdX) (fun z => z.k ≤ (Qw px[i]).length ∧ z.out = out ++ ((Qw px[i]).take z.k).flatMap (ZH (Qi M)) ∧ z.out.length ≤ out.length + 2 * z.k) [7, 14, 69, 70, 71, 72, 73, 74, 75, 76, 77, 78, 79, 80, 81, 82, 83, 84, 85, 86, 87, 88, 89, 90, 91, 92, 93, 94, 95] (fun z => [(14, .int .i64 (z.k : Int)), (7, .slice z.a z.out.length z.c)]) (fun z => [own 5 1 z.a z.c z.out.length (XY z.out), A1, own 3 1 aR cR 0 (Q2 []), QD gH [.int .i64 K, .int .i64 (W : Int), .int .i64 (H : Int), .int .i64 M] 113, A0]) (fun z => (Qw px[i]).length - z.k) ⟨0, out, aO, cO⟩ ?_ (by repeat (first | exact FrLe.nil | refine FrLe.cons rfl ?_)) ?_ ?_
      ·exact ⟨Nat.zero_le _, by simp, by simp⟩
      ·exact Take.ent' (by repeat' constructor)
      ·rintro ⟨j, out2, a2, c2⟩ ⟨hj, ho2, hol2⟩
       dsimp only at hj ho2 hol2 ⊢
       refine Qb (Qb (Qa (Qc rfl rfl (Qc rfl rfl (QO rfl rfl (Xc rfl rfl rfl (WpL.nil (Qh rfl (fun h8 => ?_) (fun h8 => ?_)))))))))
       ·have hlj : j < (Qw px[i]).length := by omega
        have huj := hcan.2.2 _ (List.getElem_mem hlj)
        refine Wp.skip (Qb (Wp.block ?_))
        refine Qb (Qb (Qa ?_))
        refine Qz (vs := [_, _, _, _]) rfl rfl rfl (by rfl) ?_
        refine Qk rfl rfl (by repeat' constructor) (Vm _ _ _ _) ?_
        rintro _ _ ⟨rfl, rfl⟩
        simp only [Qv]
        refine QJ rfl rfl rfl (WpL.nil (Qh rfl (fun h9 => ?_) (fun h9 => ?_)))
        ·refine Qa (Qc rfl rfl (Qc rfl rfl (Qc rfl rfl (Xs j rfl rfl rfl hA1 (by exact Take.ent' (by repeat' constructor)) rfl (by omega) (by rw [Xm]; omega) ?_))))
         refine Xv rfl rfl hA1 (by exact Take.ent' (by repeat' constructor)) (XO (Qw px[i]) hlj) ?_
         refine Y2 rfl rfl rfl (by omega) (by omega) (Qp (by omega) (by omega)) ?_
         refine Yk rfl Tryz.underlying3 rfl (w_u8 (by omega) (by omega)) ?_
         refine X7 rfl rfl rfl rfl ?_
         intro g3
         refine XC rfl rfl rfl (by repeat' constructor) (by rfl) (by rfl) (by rfl) (by rfl) (by omega) (by omega) ?_
         intro a86 c86
         rw [u8s_snoc, show out2.length + 1 = (out2 ++ [(((Qw px[i])[j]'hlj) / 256)]).length from by simp]
         have hl1 : (out2 ++ [((Qw px[i])[j]'hlj) / 256]).length = out2.length + 1 := by simp
         refine Qd rfl rfl (WpL.nil (Qa (Qc rfl rfl (Qc rfl rfl (Qc rfl rfl (Xs j rfl rfl rfl hA1 (by exact Take.ent' (by repeat' constructor)) rfl (by omega) (by rw [Xm]; omega) ?_))))))
         refine Xv rfl rfl hA1 (by exact Take.ent' (by repeat' constructor)) (XO (Qw px[i]) hlj) ?_
         refine YO rfl rfl rfl (by omega) (by omega) ?_
         refine Yk rfl Tryz.underlying3 rfl (w_u8 (by omega) (by omega)) ?_
         refine X7 rfl rfl rfl rfl ?_
         intro g4
         (refine XC rfl rfl rfl (by repeat' constructor) (by rfl) (by rfl) (by rfl) (by rfl) (by omega) (by omega) ?_; intro a95 c95; rw [u8s_snoc, show (out2 ++ [((Qw px[i])[j]'hlj) / 256]).length + 1 = ((out2 ++ [((Qw px[i])[j]'hlj) / 256]) ++ [(((Qw px[i])[j]'hlj) % 256)]).length from by simp])
         refine Qd rfl rfl (WpL.nil (Qa (Qc rfl rfl (Qx rfl rfl rfl (Qp (by omega) (by omega)) ?_))))
         refine Qd rfl rfl (WpL.nil (Qq (⟨j + 1, out2 ++ [((Qw px[i])[j]'hlj) / 256] ++ [((Qw px[i])[j]'hlj) % 256], a95, c95⟩ : KdX) ?_ ?_ (by ((repeat (first | exact Top.refl | refine Top.push rfl ?_)); done)) (by repeat (first | exact FrLe.nil | refine FrLe.cons rfl ?_)) ?_))
         ·exact ⟨by simp only; omega, by simp only; rw [ho2, ← enc_snoc hlj, enc_two h9]; simp, by simp only [List.length_append, List.length_cons, List.length_nil]; omega⟩
         ·simp only; omega
         ·exact Ent.refl _
        ·refine Wp.skip (Qa (Qc rfl rfl (Qc rfl rfl (Qc rfl rfl (Xs j rfl rfl rfl hA1 (by exact Take.ent' (by repeat' constructor)) rfl (by omega) (by rw [Xm]; omega) ?_)))))
         refine Xv rfl rfl hA1 (by exact Take.ent' (by repeat' constructor)) (XO (Qw px[i]) hlj) ?_
         refine YO rfl rfl rfl (by omega) (by omega) ?_
         refine Yk rfl Tryz.underlying3 rfl (w_u8 (by omega) (by omega)) ?_
         refine X7 rfl rfl rfl rfl ?_
         intro g5
         (refine XC rfl rfl rfl (by repeat' constructor) (by rfl) (by rfl) (by rfl) (by rfl) (by omega) (by omega) ?_; intro a95 c95; rw [u8s_snoc, show out2.length + 1 = (out2 ++ [(((Qw px[i])[j]'hlj) % 256)]).length from by simp])
         refine Qd rfl rfl (WpL.nil (Qa (Qc rfl rfl (Qx rfl rfl rfl (Qp (by omega) (by omega)) ?_))))
         refine Qd rfl rfl (WpL.nil (Qq (⟨j + 1, out2 ++ [((Qw px[i])[j]'hlj) % 256], a95, c95⟩ : KdX) ?_ ?_ (by ((repeat (first | exact Top.refl | refine Top.push rfl ?_)); done)) (by repeat (first | exact FrLe.nil | refine FrLe.cons rfl ?_)) ?_))
         ·exact ⟨by simp only; omega, by simp only; rw [ho2, ← enc_snoc hlj, enc_lo h9 huj.1 huj.2]; simp, by simp only [List.length_append, List.length_cons, List.length_nil]; omega⟩
         ·simp only; omega
         ·exact Ent.refl _
       ·have hjE : j = (Qw px[i]).length := by omega
        rw [hjE, List.take_length] at ho2
        refine QV (Qa (Qc rfl rfl (Qx rfl rfl rfl (Qp (by omega) (by omega)) ?_)))
        refine Qd rfl rfl (WpL.nil (Qq (⟨i + 1, y, x, out2, [], a2, c2, aR, cR⟩ : RwX) ?_ ?_ (by ((repeat (first | exact Top.refl | refine Top.push rfl ?_)); done)) (by repeat (first | exact FrLe.nil | refine FrLe.cons rfl ?_)) ?_))
        ·exact ⟨by simp only; omega, by simp only; rw [ho2]; exact hI.more h5 hlt, by simp only [List.length_nil]; omega, fun q => absurd q h5⟩
        ·simp only; omega
        ·exact Take.ent' (by repeat' constructor)
  ·have hoE := hI.done (by omega) (show i = px.length by omega) hpl
   subst hoE
   refine QV (Qb (Qa (Qc rfl rfl (Qd rfl rfl (Qd rfl rfl (WpL.nil (Qg ?_)))))))
   apply RetQ.mk
   ·exact (QX rfl rfl rfl)
   ·exact ⟨aO, cO, rfl, rfl⟩
   ·exact Take.ent' (by repeat' constructor)

end Go.Proofs.YtggamdlpiejbiaaGreat
namespace Go.Proofs.YtggamdlpiejbiaaGreat
open Go.RowKit Go.Shelf
/-- A block whose first cells are these. -/
def rdo (g : Nat) (xs : List Value) : HP where
  p w S := (∀ b, S b ↔ b = g) ∧ g < w.heap.size ∧ ∀ (j : Nat) (u : Value), xs[j]? = some u → w.cell? ⟨g, j, none⟩ = some u
  loc := fun ⟨hs, hg, h⟩ hz hb => ⟨hs, Nat.lt_of_lt_of_le hg hz, fun j u hu => by rw [← h j u hu]; exact cell_same (hb _ ((hs _).2 rfl))⟩
  lt := fun ⟨hs, hg, _⟩ b hb => by rw [(hs b).1 hb]; exact hg
theorem RdsL.rdo {g : Nat} {xs : List Value} : RdsL [Go.Proofs.YtggamdlpiejbiaaGreat.rdo g xs] (some ⟨g, 0, none⟩) xs := by
  intro w U ⟨S, ⟨_, _, h⟩, _⟩
  refine ⟨fun _ => rfl, fun ad had j u hu => ?_⟩
  injection had with had
  subst had
  have := h j u hu
  simpa [Addr.add] using (by by_cases hj : j = 0 <;> simpa [Addr.add, hj] using this : w.cell? ((⟨g, 0, none⟩ : Addr).add j) = some u)
theorem bytes_below (w : World) (e : Nat) (s : ByteArray) : Below w.heap.size w (Lib.bytesWorld w e s) := by
  refine ⟨?_, ?_, ?_, ?_, ?_⟩
  · simp [Lib.bytesWorld, World.freeze, World.alloc, World.drew, -World.alloc_eq, -World.drew_eq]
  · simp [Lib.bytesWorld, World.freeze, World.alloc, World.drew, -World.alloc_eq, -World.drew_eq]
  · simp [Lib.bytesWorld, World.freeze, World.alloc, World.drew, -World.alloc_eq, -World.drew_eq]
  · rw [Lib.bytesWorld_size]; omega
  · intro b hb; exact Lib.bytesWorld_at_old w e s b hb
section
variable {P : Program} {n : Cx} {D : List Deferred} {ops : Array Oper} {rest : List Oper} {Q : Post} {fr : Fr} {l : List HP} {ty : Nat} {pos : String} {aft : Array Edge}
theorem out_bytes {w : World} {U : Nat → Prop} (h : Sat w l U) (e : Nat) (s : ByteArray) : Out (rdo w.heap.size (XY (QZ s)) :: l) U w (Lib.bytesWorld w e s) := by
  have hb := bytes_below w e s
  have h2 : Sat (Lib.bytesWorld w e s) l (fun b => U b ∧ b < w.heap.size) := h.inside.keep hb.size fun b _ hlt => hb.block b hlt
  refine ⟨⟨fun b => b = w.heap.size, ⟨fun _ => Iff.rfl, by rw [Lib.bytesWorld_size]; omega, fun j u hu => ?_⟩, fun b hb => .inr (Nat.le_of_eq hb.symm), h2.mono fun b hb => ⟨.inl hb.1, fun e => ?_⟩⟩, .of_below hb⟩
  · have hj : j < (QZ s).length := by
      have := List.getElem?_eq_some_iff.1 hu
      rw [← XP]; exact this.1
    rw [Zl _ hj] at hu
    injection hu with hu
    have hj2 : j < s.size := by rw [Xa] at hj; exact hj
    rw [← hu, Lib.bytesWorld_cell w e s j hj2]
    rw [bsOf_at hj2]
    simp [List.getD, hj2]
    rfl
  · rw [e] at hb; exact absurd hb.2 (Nat.lt_irrefl _)
theorem s_t2b {d T1 T2 e : Nat} {x : Operand} {s : ByteArray} (hd : Nat.blt d n = true) (h1 : P.underlying T1 = some .string) (h2 : P.underlying T2 = some (.slice e)) (h3 : P.underlying e = some (.int .u8)) (hx : ev fr x = some (.string s))
    (k : ∀ g c, WpL P n D ops rest Q ((d, .slice (some ⟨g, 0, none⟩) (QZ s).length c) :: fr) (rdo g (XY (QZ s)) :: l)) : WpL P n D ops (⟨some d, .convert T1 T2 x, ty, pos, aft, none⟩ :: rest) Q fr l :=
  Yz hd (σ := Nat × Nat) (fun q => .slice (some ⟨q.1, 0, none⟩) (QZ s).length q.2) (fun q => rdo q.1 (XY (QZ s)) :: l) (fun a w U hh hs => ⟨(w.heap.size, grownCap w s.size 0 e), _, by rw [Xa]; simp [execOp, hh.ev hx, Lib.run_convert_string_bytes w T1 T2 e s h1 h2 h3], out_bytes hs e s⟩) fun q => k q.1 q.2
end
end Go.Proofs.YtggamdlpiejbiaaGreat
