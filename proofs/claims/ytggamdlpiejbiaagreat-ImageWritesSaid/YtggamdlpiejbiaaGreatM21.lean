/- Walks and plain laws, a part of the proof of ImageWrites: every input that the law's guards let in, no condition beside. -/
import Derived.Test.YtggamdlpiejbiaaGreatM20
namespace Go.Proofs.YtggamdlpiejbiaaGreat
open Go.ChangeShapes Go.WideShapes Go.ChangeAt Go.RowKit Go.Shelf

def GsOk1 (A0 : HP) (g : GS) : Prop := (∀ x ∈ g.zs, -9223372036854775808 ≤ x ∧ x < 9223372036854775808) ∧ g.zs.length ≤ 9223372036854775807 ∧ RdsL [A0] g.a (QZ g.zs) ∧ (-9223372036854775808 ≤ g.mx ∧ g.mx < 9223372036854775808) ∧ (-9223372036854775808 ≤ g.w ∧ g.w < 9223372036854775808) ∧ (-9223372036854775808 ≤ g.h ∧ g.h < 9223372036854775808)
theorem open_G {H : Type} {enc : TypeId × Value → H} {W : World} {sp : Nat → Bool} {held : Bool} {fuel : Nat} {cs : List Value} {x : DataW H × List MemPlace} (h : DataW.trod enc Tryz.prog W 0 sp held fuel 74 cs = some x) : ∃ g : GS, cs = gC g ∧ GsOk1 (oldW W) g := by
  obtain ⟨xs, n, rfl, rfl, hl, hxl, hf⟩ := DataW.trod_struct Tryz.underlying74 h
  rw [show Tryz.prog.cellsOf 74 = 5 by kernel_rfl] at hl
  obtain ⟨c0, c1, c2, c3, c4, rfl⟩ := len5 hl
  have f0 : DataW.trod enc Tryz.prog W 0 sp held n 4 (([c0, c1, c2, c3, c4].drop 0).take (Tryz.prog.cellsOf 4)) = xs[0]? := hf 0 _ rfl
  rw [show Tryz.prog.cellsOf 4 = 1 by kernel_rfl, List.getElem?_eq_getElem (show 0 < xs.length by rw [hxl]; decide)] at f0
  change DataW.trod enc Tryz.prog W 0 sp held n 4 [c0] = _ at f0
  have f1 : DataW.trod enc Tryz.prog W 0 sp held n 3 (([c0, c1, c2, c3, c4].drop 1).take (Tryz.prog.cellsOf 3)) = xs[1]? := hf 1 _ rfl
  rw [show Tryz.prog.cellsOf 3 = 1 by kernel_rfl, List.getElem?_eq_getElem (show 1 < xs.length by rw [hxl]; decide)] at f1
  change DataW.trod enc Tryz.prog W 0 sp held n 3 [c1] = _ at f1
  have f2 : DataW.trod enc Tryz.prog W 0 sp held n 3 (([c0, c1, c2, c3, c4].drop 2).take (Tryz.prog.cellsOf 3)) = xs[2]? := hf 2 _ rfl
  rw [show Tryz.prog.cellsOf 3 = 1 by kernel_rfl, List.getElem?_eq_getElem (show 2 < xs.length by rw [hxl]; decide)] at f2
  change DataW.trod enc Tryz.prog W 0 sp held n 3 [c2] = _ at f2
  have f3 : DataW.trod enc Tryz.prog W 0 sp held n 3 (([c0, c1, c2, c3, c4].drop 3).take (Tryz.prog.cellsOf 3)) = xs[3]? := hf 3 _ rfl
  rw [show Tryz.prog.cellsOf 3 = 1 by kernel_rfl, List.getElem?_eq_getElem (show 3 < xs.length by rw [hxl]; decide)] at f3
  change DataW.trod enc Tryz.prog W 0 sp held n 3 [c3] = _ at f3
  have f4 : DataW.trod enc Tryz.prog W 0 sp held n 26 (([c0, c1, c2, c3, c4].drop 4).take (Tryz.prog.cellsOf 26)) = xs[4]? := hf 4 _ rfl
  rw [show Tryz.prog.cellsOf 26 = 1 by kernel_rfl, List.getElem?_eq_getElem (show 4 < xs.length by rw [hxl]; decide)] at f4
  change DataW.trod enc Tryz.prog W 0 sp held n 26 [c4] = _ at f4
  obtain ⟨b0, e0, _⟩ := DataW.trod_bool Tryz.underlying4 f0
  obtain rfl : c0 = _ := by simpa using e0
  obtain ⟨z1, e1, _, w1⟩ := DataW.trod_int Tryz.underlying3 f1
  obtain rfl : c1 = _ := by simpa using e1
  have b1 := wf_i64 w1
  obtain ⟨z2, e2, _, w2⟩ := DataW.trod_int Tryz.underlying3 f2
  obtain rfl : c2 = _ := by simpa using e2
  have b2 := wf_i64 w2
  obtain ⟨z3, e3, _, w3⟩ := DataW.trod_int Tryz.underlying3 f3
  obtain rfl : c3 = _ := by simpa using e3
  have b3 := wf_i64 w3
  obtain ⟨a4, n4, k4, zs4, e4, hzl4, hnk4, hkm4, hz4, hr4⟩ := open_nums Tryz.underlying26 Tryz.underlying3 (by kernel_rfl) f4
  obtain rfl : c4 = _ := by simpa using e4
  subst hzl4
  have b4 : ∀ x ∈ zs4, _ := fun x hx => wf_i64 (hz4 x hx)
  have m4 : zs4.length ≤ 9223372036854775807 := by unfold maxLen at hkm4; omega
  exact ⟨⟨b0, z1, z2, z3, a4, k4, zs4⟩, rfl, ⟨b4, m4, hr4, b1, b2, b3⟩⟩
end Go.Proofs.YtggamdlpiejbiaaGreat
namespace Go.Proofs.YtggamdlpiejbiaaGreat
open Go.RowKit Go.Shelf


/-- The kinds that may tell a format. -/
def kP (C M : Int) (k : Nat) : Bool := decide (1 ≤ k) && decide (((k : Int) % 3 = 0 ↔ C = 3) ∧ ((k : Int) % 3 ≠ 1 ∨ M = 1))
def kUp (C M : Int) (k : Nat) : List Int := ((List.range k).filter (kP C M)).map fun i : Nat => (i : Int)
theorem kUp_y {C M : Int} {k : Nat} (h : kP C M k = true) : kUp C M (k + 1) = kUp C M k ++ [(k : Int)] := by unfold kUp; rw [List.range_succ, List.filter_append, List.map_append]; simp [h]
theorem kUp_n {C M : Int} {k : Nat} (h : kP C M k = false) : kUp C M (k + 1) = kUp C M k := by unfold kUp; rw [List.range_succ, List.filter_append, List.map_append]; simp [h]
theorem kUp_one {C M : Int} : kUp C M 1 = [] := by unfold kUp kP; simp [List.range_succ]
theorem kUp_len {C M : Int} {k : Nat} : (kUp C M k).length ≤ k := by
  unfold kUp
  rw [List.length_map]
  exact Nat.le_trans (List.length_filter_le _ _) (by rw [List.length_range]; exact Nat.le_refl _)
def QN (C M : Int) : List Int := if Yt C M then kUp C M 7 else []
structure KdX where
  (k : Nat) (out : List Int) (a : Option Addr) (c : Nat)

theorem rKinds10_spec (C M : Int) : Fn Tryz.prog 36 #[.agg #[.int .i64 C, .int .i64 M]] [] (fun v l => ∃ a c, v = .slice a (QN C M).length c ∧ l = [QL 3 1 a c (QN C M).length (QZ (QN C M))]) := by
 refine Ql (vs := [.agg #[.int .i64 C, .int .i64 M]]) Tryz.func36 rfl Tryz.ntmps36 rfl (Qb (Qa (QV rfl rfl rfl ?_)))
 intro gF
 refine Qe rfl rfl (WpL.nil (Qb (Qa ?_)))
 refine QA (vs := [_, _]) rfl rfl rfl (by rfl) ?_
 refine Qh rfl rfl (by repeat' constructor) (rFormat1_spec _ _) ?_
 rintro _ _ ⟨rfl, rfl⟩
 simp only [Qr]
 refine Qe rfl rfl (WpL.nil (Qb (Qb (Qa (Qc rfl rfl (XH rfl rfl (WpL.nil (Qk rfl (fun h0 => ?_) (fun h0 => ?_)))))))))
 ·refine Qb (Qa (Qe rfl rfl (WpL.nil (Qi ?_))))
  apply RetQ.mk
  ·exact (Res.one rfl rfl)
  ·exact ⟨none, 0, by rw [QN, if_neg (by assumption)]; rfl, rfl⟩
  ·rw [show QN C M = [] from if_neg (by assumption)]
   exact Ent.own_nil (Ent.nil _)
 ·refine Wp.skip (Qb (Qa (Qe rfl rfl (WpL.nil (Qb (Qb (Qa (Qe rfl rfl (WpL.nil (Wp.block ?_))))))))))
  refine Wp.loopD (σ := KdX) (fun x => 1 ≤ x.k ∧ x.k ≤ 7 ∧ x.out = kUp C M x.k) [4, 5, 10, 11, 12, 13, 14, 15, 16, 17, 18, 19, 20, 21, 22, 23, 24, 25, 26, 27, 28, 29, 30, 31, 32, 33, 34] (fun x => [(5, .int .i64 (x.k : Int)), (4, .slice x.a x.out.length x.c)]) (fun x => [QL 3 1 x.a x.c x.out.length (QZ x.out), QB gF [.int .i64 C, .int .i64 M] 48]) (fun x => 7 - x.k) ⟨1, [], none, 0⟩ ?_ (by repeat (first | exact FrLe.nil | refine FrLe.cons rfl ?_)) ?_ ?_
  ·exact ⟨Nat.le_refl _, by simp, kUp_one.symm⟩
  ·exact Ent.own_nil (Ent.refl _)
  ·rintro ⟨k, out, a, c⟩ ⟨hk1, hk7, ho⟩
   dsimp only at hk1 hk7 ho ⊢
   have hkl := kUp_len (C := C) (M := M) (k := k)
   rw [← ho] at hkl
   refine Qb (Qb (Qa (Qc rfl rfl (s_le rfl rfl rfl (WpL.nil (Qk rfl (fun h2 => ?_) (fun h2 => ?_)))))))
   ·refine Wp.skip (Qb (Wp.block ?_))
    refine Qb (Qa (Qc rfl rfl (YA rfl rfl rfl (by omega) (by omega) ?_)))
    refine QK rfl rfl rfl (Qj (o2 := 0) rfl rfl rfl (Qo rfl rfl (by rfl) ?_))
    refine QK rfl rfl rfl (s_beq rfl Tryz.underlying4 rfl rfl (Qc rfl rfl (QG rfl rfl rfl (fun hg1 => ?_) (fun hg1 => ?_))))
    ·refine Qc rfl rfl (Qf rfl rfl (YA rfl rfl rfl (by omega) (by omega) ?_))
     refine Qf rfl rfl (Xc rfl rfl rfl (Qf rfl rfl (Qc rfl rfl (QG rfl rfl rfl (fun hg2 => ?_) (fun hg2 => ?_)))))
     ·have hg2 := of_decide_eq_false hg2
      refine Qj (o2 := 1) rfl rfl rfl (Qf rfl rfl (Qo rfl rfl (by rfl) ?_))
      refine Qf rfl rfl (QK rfl rfl rfl (Qf rfl rfl (Qq rfl rfl rfl (Qs rfl rfl rfl (WpL.nil (Qk rfl (fun h3 => ?_) (fun h3 => ?_)))))))
      ·refine Qa (Qc rfl rfl (Qc rfl rfl ?_))
       refine Yp rfl rfl rfl rfl ?_
       intro g2
       refine XZ rfl rfl rfl (by repeat' constructor) (by rfl) (by rfl) (by rfl) (by rfl) (by omega) (by omega) ?_
       intro a34 c34
       rw [YR, show out.length + 1 = (out ++ [(k : Int)]).length from by simp]
       refine Qe rfl rfl (WpL.nil (Qa (Qc rfl rfl (QE rfl rfl rfl (Qt (by omega) (by omega)) ?_))))
       refine Qe rfl rfl (WpL.nil (Qw (⟨k + 1, out ++ [(k : Int)], a34, c34⟩ : KdX) ?_ ?_ (by ((repeat (first | exact Top.refl | refine Top.push rfl ?_)); done)) (by repeat (first | exact FrLe.nil | refine FrLe.cons rfl ?_)) ?_))
       ·simp only [beq_iff_eq, decide_eq_decide] at hg1
        exact ⟨by simp only; omega, by simp only; omega, by simp only; rw [kUp_y (by unfold kP; simp only [Bool.and_eq_true, decide_eq_true_eq]; omega), ho]⟩
       ·simp only; omega
       ·exact Ent.refl _
      ·refine Wp.skip (Qa (Qc rfl rfl (QE rfl rfl rfl (Qt (by omega) (by omega)) ?_)))
       refine Qe rfl rfl (WpL.nil (Qw (⟨k + 1, out, a, c⟩ : KdX) ?_ ?_ (by ((repeat (first | exact Top.refl | refine Top.push rfl ?_)); done)) (by repeat (first | exact FrLe.nil | refine FrLe.cons rfl ?_)) ?_))
       ·simp only [beq_iff_eq, decide_eq_decide] at hg1
        exact ⟨by simp only; omega, by simp only; omega, by simp only; rw [kUp_n (by rw [Bool.eq_false_iff]; unfold kP; simp only [ne_eq, Bool.and_eq_true, decide_eq_true_eq]; omega), ho]⟩
       ·simp only; omega
       ·exact Ent.refl _
     ·have hg2 := of_decide_eq_true hg2
      refine Qd rfl rfl rfl (by decide) (Qd rfl rfl rfl (by decide) (Qf rfl rfl (Qs rfl rfl rfl (Qs rfl rfl rfl (WpL.nil (Xa rfl (Qa (Qc rfl rfl (Qc rfl rfl ?_)))))))))
      refine Yp rfl rfl rfl rfl ?_
      intro g3
      refine XZ rfl rfl rfl (by repeat' constructor) (by rfl) (by rfl) (by rfl) (by rfl) (by omega) (by omega) ?_
      intro a34 c34
      rw [YR, show out.length + 1 = (out ++ [(k : Int)]).length from by simp]
      refine Qe rfl rfl (WpL.nil (Qa (Qc rfl rfl (QE rfl rfl rfl (Qt (by omega) (by omega)) ?_))))
      refine Qe rfl rfl (WpL.nil (Qw (⟨k + 1, out ++ [(k : Int)], a34, c34⟩ : KdX) ?_ ?_ (by ((repeat (first | exact Top.refl | refine Top.push rfl ?_)); done)) (by repeat (first | exact FrLe.nil | refine FrLe.cons rfl ?_)) ?_))
      ·simp only [beq_iff_eq, decide_eq_decide] at hg1
       exact ⟨by simp only; omega, by simp only; omega, by simp only; rw [kUp_y (by unfold kP; simp only [Bool.and_eq_true, decide_eq_true_eq]; omega), ho]⟩
      ·simp only; omega
      ·exact Ent.refl _
    ·refine Qd rfl rfl rfl (by decide) (Qd rfl rfl rfl (by decide) (Qd rfl rfl rfl (by decide) (QI rfl rfl rfl (QI rfl rfl rfl (QI rfl rfl rfl (Qd rfl rfl rfl (by decide) (Qq rfl rfl rfl (WpL.nil (Q0 rfl (Wp.skip (Qa (Qc rfl rfl ?_))))))))))))
     refine QE rfl rfl rfl (Qt (by omega) (by omega)) ?_
     refine Qe rfl rfl (WpL.nil (Qw (⟨k + 1, out, a, c⟩ : KdX) ?_ ?_ (by ((repeat (first | exact Top.refl | refine Top.push rfl ?_)); done)) (by repeat (first | exact FrLe.nil | refine FrLe.cons rfl ?_)) ?_))
     ·simp only [Bool.not_true, beq_eq_false_iff_ne, ne_eq, decide_eq_decide] at hg1
      exact ⟨by simp only; omega, by simp only; omega, by simp only; rw [kUp_n (by rw [Bool.eq_false_iff]; unfold kP; simp only [ne_eq, Bool.and_eq_true, decide_eq_true_eq]; omega), ho]⟩
     ·simp only; omega
     ·exact Ent.refl _
   ·have ho2 : out = QN C M := by rw [QN, if_pos (Classical.not_not.1 h0), ho, show k = 7 by omega]
    subst ho2
    refine QJ (Qb (Qa (Qc rfl rfl (Qe rfl rfl (WpL.nil (Qi ?_))))))
    apply RetQ.mk
    ·exact (Res.one rfl rfl)
    ·exact ⟨a, c, rfl, rfl⟩
    ·exact Take.ent' (by repeat' constructor)

end Go.Proofs.YtggamdlpiejbiaaGreat
namespace Go.Proofs.YtggamdlpiejbiaaGreat
open Go.RowKit Go.Shelf


theorem kinds_len {C M : Int} : (QN C M).length ≤ 7 := by
  unfold QN
  split
  · exact kUp_len
  · simp
theorem Z8 {α : Type} (l : List α) {k : Nat} (h : k < l.length) : l.take (k + 1) = l.take k ++ [l[k]] := by
  rw [List.take_add_one, List.getElem?_eq_getElem h]
  rfl
end Go.Proofs.YtggamdlpiejbiaaGreat
namespace Go.Proofs.YtggamdlpiejbiaaGreat
open Go.RowKit Go.Shelf


def Xr (w h : Int) : Prop := (1 ≤ w ∧ w ≤ 4096) ∧ (1 ≤ h ∧ h ≤ 65536) ∧ w * h ≤ 16777216
instance (w h : Int) : Decidable (Xr w h) := by unfold Xr; infer_instance
def XM (C M W H : Int) (px : List Int) : Prop := Xr W H ∧ (px.length : Int) = W * H ∧ ∀ p ∈ px, X6 p C M
instance (C M W H : Int) (px : List Int) : Decidable (XM C M W H px) := by unfold XM; infer_instance
theorem Take1.mid {A : HP} {As : List HP} : ∀ (Bs : List HP), Take1 (Bs ++ A :: As) A (Bs ++ As)
  | [] => .here
  | _ :: Bs => .there (Take1.mid Bs)
theorem YY (Bs : List HP) : ∀ (As : List HP), Take (Bs ++ As) As Bs
  | [] => by rw [List.append_nil]; exact .nil
  | _ :: As => .cons (Take1.mid Bs) (YY Bs As)
theorem Ent.left : ∀ (As F : List HP), Ent (As ++ F) As
  | [], _ => Ent.nil _
  | _ :: As, F => Ent.cons (Ent.left As F)
theorem sz_mul {w h : Int} (hw : 1 ≤ w ∧ w ≤ 4096) (hh : 1 ≤ h ∧ h ≤ 65536) : 0 ≤ w * h ∧ w * h ≤ 4096 * 65536 := ⟨Int.mul_nonneg (by omega) (by omega), Int.mul_le_mul (by omega) (by omega) (by omega) (by omega)⟩

theorem rSized_spec (w h : Int) : Fn Tryz.prog 175 #[.int .i64 w, .int .i64 h] [] (fun v l => v = .bool (decide (Xr w h)) ∧ l = []) := by
 refine Ql (vs := [.int .i64 w, .int .i64 h]) Tryz.func175 rfl Tryz.ntmps175 rfl (Qb (Qa (Qe rfl rfl (WpL.nil (Qb (Qb (Qa (Qc rfl rfl (Q4 rfl rfl rfl (Qc rfl rfl (QG rfl rfl rfl (fun hg1 => ?_) (fun hg1 => ?_))))))))))))
 ·have hg1 := of_decide_eq_false hg1
  refine Qc rfl rfl (Qf rfl rfl (Y5 rfl rfl rfl (Qq rfl rfl rfl (Qc rfl rfl (QG rfl rfl rfl (fun hg2 => ?_) (fun hg2 => ?_))))))
  ·have hg2 := of_decide_eq_false hg2
   refine Qc rfl rfl (Qf rfl rfl (Q4 rfl rfl rfl (Qq rfl rfl rfl (Qc rfl rfl (QG rfl rfl rfl (fun hg3 => ?_) (fun hg3 => ?_))))))
   ·have hg3 := of_decide_eq_false hg3
    refine Qc rfl rfl (Qf rfl rfl (Y5 rfl rfl rfl (Qq rfl rfl rfl (WpL.nil (Qk rfl (fun h0 => ?_) (fun h0 => ?_))))))
    ·refine Qb (Qa (Qe rfl rfl (WpL.nil (Qi ?_))))
     apply RetQ.mk
     ·exact (Res.one rfl rfl)
     ·exact ⟨by rw [decide_eq_false (show ¬Xr w h by unfold Xr; omega)], rfl⟩
     ·exact Ent.refl _
    ·have hmb := sz_mul (w := w) (h := h) (by omega) (by omega)
     refine Wp.skip (Qb (Qa (Qc rfl rfl (Qc rfl rfl (Xy rfl rfl rfl (Qt (by omega) (by omega)) ?_)))))
     refine s_le rfl rfl rfl (Qe rfl rfl (WpL.nil (Qi ?_)))
     apply RetQ.mk
     ·exact (Res.one rfl rfl)
     ·exact ⟨congrArg Value.bool (decide_eq_decide.2 (by unfold Xr; omega)), rfl⟩
     ·exact Ent.refl _
   ·have hg3 := of_decide_eq_true hg3
    refine Qd rfl rfl rfl (by decide) (Qs rfl rfl rfl (WpL.nil (Xa rfl (Qb (Qa (Qe rfl rfl (WpL.nil (Qi ?_))))))))
    apply RetQ.mk
    ·exact (Res.one rfl rfl)
    ·exact ⟨by rw [decide_eq_false (show ¬Xr w h by unfold Xr; omega)], rfl⟩
    ·exact Ent.refl _
  ·have hg2 := of_decide_eq_true hg2
   refine Qd rfl rfl rfl (by decide) (Qs rfl rfl rfl (Qc rfl rfl (Qd rfl rfl rfl (by decide) (Qd rfl rfl rfl (by decide) (Qs rfl rfl rfl (WpL.nil (Xa rfl (Qb (Qa (Qe rfl rfl (WpL.nil (Qi ?_))))))))))))
   apply RetQ.mk
   ·exact (Res.one rfl rfl)
   ·exact ⟨by rw [decide_eq_false (show ¬Xr w h by unfold Xr; omega)], rfl⟩
   ·exact Ent.refl _
 ·have hg1 := of_decide_eq_true hg1
  refine Qd rfl rfl rfl (by decide) (Qs rfl rfl rfl (Qc rfl rfl (Qd rfl rfl rfl (by decide) (Qd rfl rfl rfl (by decide) (Qs rfl rfl rfl (Qc rfl rfl (Qd rfl rfl rfl (by decide) (Qd rfl rfl rfl (by decide) (Qs rfl rfl rfl (WpL.nil (Xa rfl (Qb ?_))))))))))))
  refine Qa (Qe rfl rfl (WpL.nil (Qi ?_)))
  apply RetQ.mk
  ·exact (Res.one rfl rfl)
  ·exact ⟨by rw [decide_eq_false (show ¬Xr w h by unfold Xr; omega)], rfl⟩
  ·exact Ent.refl _

theorem rMay03_spec (W H : Int) (a : Option Addr) (n c : Nat) : Fn Tryz.prog 133 #[.agg #[.int .i64 W, .int .i64 H, .slice a n c]] [] (fun v l => v = .bool (decide (Xr W H ∧ (n : Int) = W * H)) ∧ l = []) := by
 refine Ql (vs := [.agg #[.int .i64 W, .int .i64 H, .slice a n c]]) Tryz.func133 rfl Tryz.ntmps133 rfl (Qb (Qa (QV rfl rfl rfl ?_)))
 intro g1
 refine Qe rfl rfl (WpL.nil (Qb (Qa (Qj (o2 := 0) rfl rfl rfl (Qo rfl rfl (by rfl) ?_)))))
 refine Qj (o2 := 1) rfl rfl rfl (Qo rfl rfl (by rfl) ?_)
 refine Qh rfl rfl (by repeat' constructor) (rSized_spec _ _) ?_
 rintro _ _ ⟨rfl, rfl⟩
 simp only [Qr]
 refine Qe rfl rfl (WpL.nil (Qb (Qb (Qa (Qc rfl rfl (XH rfl rfl (WpL.nil (Qk rfl (fun h0 => ?_) (fun h0 => ?_)))))))))
 ·refine Qb (Qa (Qe rfl rfl (WpL.nil (Qi ?_))))
  apply RetQ.mk
  ·exact (Res.one rfl rfl)
  ·exact ⟨by rw [decide_eq_false (fun q => absurd q.1 (by assumption))], rfl⟩
  ·exact Ent.nil _
 ·have hsz : Xr W H := Classical.not_not.1 h0
  have hsz2 := hsz
  unfold Xr at hsz2
  have hmb := sz_mul hsz2.1 hsz2.2.1
  refine Wp.skip (Qb (Qa (Qj (o2 := 2) rfl rfl rfl (Qo rfl rfl (by rfl) ?_))))
  refine QH rfl rfl (Qj (o2 := 0) rfl rfl rfl (Qo rfl rfl (by rfl) ?_))
  refine Qj (o2 := 1) rfl rfl rfl (Qo rfl rfl (by rfl) ?_)
  refine Xy rfl rfl rfl (Qt (by omega) (by omega)) ?_
  refine QK rfl rfl rfl (Qe rfl rfl (WpL.nil (Qi ?_)))
  apply RetQ.mk
  ·exact (Res.one rfl rfl)
  ·exact ⟨congrArg Value.bool (decide_eq_decide.2 ⟨fun q => ⟨hsz, q⟩, fun q => q.2⟩), rfl⟩
  ·exact Ent.nil _

theorem rFits03_spec (As : List HP) (W H : Int) (a : Option Addr) (c : Nat) (px : List Int) (C M : Int) (hA : RdsL As a (XA px)) (hb : ∀ p ∈ px, 0 ≤ p ∧ p < 18446744073709551616) (hl : px.length ≤ 9223372036854775807) : Fn Tryz.prog 86 #[.agg #[.int .i64 W, .int .i64 H, .slice a px.length c], .agg #[.int .i64 C, .int .i64 M]] As (fun v l => v = .bool (decide (XM C M W H px)) ∧ l = As) := by
 refine Ql (vs := [.agg #[.int .i64 W, .int .i64 H, .slice a px.length c], .agg #[.int .i64 C, .int .i64 M]]) Tryz.func86 rfl Tryz.ntmps86 rfl (Qb (Qa (QV rfl rfl rfl ?_)))
 intro gM
 refine QV rfl rfl rfl ?_
 intro gF
 refine Qe rfl rfl (WpL.nil (Qb (Qa ?_)))
 refine QA (vs := [_, _, _]) rfl rfl rfl (by rfl) ?_
 refine Qh rfl rfl (by repeat' constructor) (rMay03_spec _ _ _ _ _) ?_
 rintro _ _ ⟨rfl, rfl⟩
 simp only [Qr]
 refine Qe rfl rfl (WpL.nil (Qb (Qb (Qa (Qc rfl rfl (XH rfl rfl (WpL.nil (Qk rfl (fun h0 => ?_) (fun h0 => ?_)))))))))
 ·refine Qb (Qa (Qe rfl rfl (WpL.nil (Qi ?_))))
  apply RetQ.mk
  ·exact (Res.one rfl rfl)
  ·exact ⟨by rw [decide_eq_false (fun q => absurd (⟨q.1, q.2.1⟩ : Xr W H ∧ (px.length : Int) = W * H) (by assumption))], rfl⟩
  ·(repeat (first | exact Ent.refl _ | refine Ent.drop ?_))
 ·have hmy := Classical.not_not.1 h0
  refine Wp.skip (Qb (Qb (Qa (Qe rfl rfl (WpL.nil (Wp.block ?_))))))
  refine Wp.loopD (σ := Nat) (fun k => k ≤ px.length ∧ ∀ p ∈ px.take k, X6 p C M) [4, 6, 7, 12, 13, 14, 15, 16, 17, 18, 19, 20, 21, 22, 23, 24, 25, 26, 27] (fun k => [(6, .int .i64 (k : Int))]) (fun k => QB gF [.int .i64 C, .int .i64 M] 48 :: QB gM [.int .i64 W, .int .i64 H, .slice a px.length c] 69 :: As) (fun k => px.length - k) 0 ?_ (by repeat (first | exact FrLe.nil | refine FrLe.cons rfl ?_)) ?_ ?_
  ·exact ⟨Nat.zero_le _, by simp⟩
  ·exact Ent.refl _
  ·rintro k ⟨hk, hfi⟩
   refine Qb (Qb (Qa (Qc rfl rfl (Qj (o2 := 2) rfl rfl rfl (Qo rfl rfl (by rfl) ?_)))))
   refine QH rfl rfl (Q4 rfl rfl rfl (WpL.nil (Qk rfl (fun h2 => ?_) (fun h2 => ?_))))
   ·have hlt : k < px.length := by omega
    have hpb := hb _ (List.getElem_mem hlt)
    refine Wp.skip (Qb (Wp.block ?_))
    refine Qb ?_
    apply QU mixed [⟨19, _, []⟩, ⟨20, _, [0]⟩, ⟨21, _, []⟩, ⟨22, _, [1, 2]⟩, ⟨23, _, [3]⟩, ⟨24, _, []⟩, ⟨25, _, [4, 5]⟩, ⟨7, _, [6, 0, 1, 2, 3, 4, 5]⟩] rfl
    ·refine AllObs.mk ?_ ?_
     ·exact Qj (o2 := 2) rfl rfl rfl (Qn rfl)
     refine AllObs.mk ?_ ?_
     ·refine Qo rfl rfl (by rfl) ?_
      exact Qn rfl
     refine AllObs.mk ?_ ?_
     ·exact Qc rfl rfl (Qn rfl)
     refine AllObs.mk ?_ ?_
     ·refine Q2 k rfl rfl rfl hA (by (repeat (first | exact Ent.refl _ | refine Ent.drop ?_))) rfl (by omega) (by rw [XI]; omega) ?_
      exact Qn rfl
     refine AllObs.mk ?_ ?_
     ·refine Q8 rfl rfl hA (by (repeat (first | exact Ent.refl _ | refine Ent.drop ?_))) (Yh px hlt) ?_
      exact Qn rfl
     refine AllObs.mk ?_ ?_
     ·refine QA (vs := [_, _]) rfl rfl rfl (by rfl) ?_
      exact Qn rfl
     refine AllObs.mk ?_ ?_
     ·refine Qh rfl rfl (by repeat' constructor) (rFits_spec _ _ _ hpb.1 hpb.2) ?_
      rintro _ _ ⟨rfl, rfl⟩
      simp only [Qr]
      exact WpL.nil ⟨rfl, rfl, rfl, by exact Ent.refl _⟩
     refine AllObs.mk ?_ ?_
     ·exact Qe rfl rfl (Qn rfl)
     exact AllObs.nil
    ·refine Qb (Qa (Qc rfl rfl (XH rfl rfl (WpL.nil (Qk rfl (fun h3 => ?_) (fun h3 => ?_))))))
     ·refine Qb (Qa (Qe rfl rfl (WpL.nil (Qi ?_))))
      apply RetQ.mk
      ·exact (Res.one rfl rfl)
      ·exact ⟨by rw [decide_eq_false (fun q => absurd (q.2.2 _ (List.getElem_mem hlt)) (by assumption))], rfl⟩
      ·(repeat (first | exact Ent.refl _ | refine Ent.drop ?_))
     ·refine Wp.skip (Qa (Qc rfl rfl (QE rfl rfl rfl (Qt (by omega) (by omega)) ?_)))
      refine Qe rfl rfl (WpL.nil (Qw (k + 1) ?_ ?_ (by ((repeat (first | exact Top.refl | refine Top.push rfl ?_)); done)) (by repeat (first | exact FrLe.nil | refine FrLe.cons rfl ?_)) ?_))
      ·refine ⟨by omega, ?_⟩
       rw [Z8 px hlt]
       intro q hq
       rcases List.mem_append.1 hq with hq | hq
       ·exact hfi q hq
       ·rw [List.mem_singleton.1 hq]; exact Classical.not_not.1 (by assumption)
      ·omega
      ·exact Ent.refl _
   ·refine QJ (Qb (Qa (Qe rfl rfl (WpL.nil (Qi ?_)))))
    apply RetQ.mk
    ·exact (Res.one rfl rfl)
    ·have hkE : k = px.length := by omega
     rw [hkE, List.take_length] at hfi
     exact ⟨by rw [decide_eq_true (p := XM C M W H px) ⟨hmy.1, hmy.2, hfi⟩], rfl⟩
    ·(repeat (first | exact Ent.refl _ | refine Ent.drop ?_))

theorem rMay10_spec (As : List HP) (C M W H : Int) (a : Option Addr) (c : Nat) (px : List Int) (hA : RdsL As a (XA px)) (hb : ∀ p ∈ px, 0 ≤ p ∧ p < 18446744073709551616) (hl : px.length ≤ 9223372036854775807) : Fn Tryz.prog 47 #[.agg #[.int .i64 C, .int .i64 M, .int .i64 W, .int .i64 H, .slice a px.length c]] As (fun v l => v = .bool (decide (XM C M W H px)) ∧ l = As) := by
 refine Ql (vs := [.agg #[.int .i64 C, .int .i64 M, .int .i64 W, .int .i64 H, .slice a px.length c]]) Tryz.func47 rfl Tryz.ntmps47 rfl (Qb (Qa (QV rfl rfl rfl ?_)))
 intro gI
 refine Qe rfl rfl (WpL.nil (Qb (Qa (Qj (o2 := 2) rfl rfl rfl ?_))))
 refine QA (vs := [_, _, _]) rfl rfl rfl (by rfl) ?_
 refine Qj (o2 := 0) rfl rfl rfl ?_
 refine QA (vs := [_, _]) rfl rfl rfl (by rfl) ?_
 refine Qh rfl rfl (YY [_] As) (rFits03_spec As W H a c px C M hA hb hl) ?_
 rintro _ _ ⟨rfl, rfl⟩
 refine Qe rfl rfl (WpL.nil (Qi ?_))
 apply RetQ.mk
 ·exact (Res.one rfl rfl)
 ·exact ⟨rfl, rfl⟩
 ·exact Ent.left _ _

theorem rTells_spec (As : List HP) (C M W H : Int) (a : Option Addr) (c : Nat) (px : List Int) (hA : RdsL As a (XA px)) (hb : ∀ p ∈ px, 0 ≤ p ∧ p < 18446744073709551616) (hl : px.length ≤ 9223372036854775807) (k : Int) : Fn Tryz.prog 67 #[.agg #[.int .i64 C, .int .i64 M, .int .i64 W, .int .i64 H, .slice a px.length c], .int .i64 k] As (fun v l => v = .bool (decide (k ∈ QN C M ∧ XM C M W H px)) ∧ l = As) := by
 refine Ql (vs := [.agg #[.int .i64 C, .int .i64 M, .int .i64 W, .int .i64 H, .slice a px.length c], .int .i64 k]) Tryz.func67 rfl Tryz.ntmps67 rfl (Qb (Qa (QV rfl rfl rfl ?_)))
 intro gI
 refine Qe rfl rfl (WpL.nil (Qb (Qa (Qj (o2 := 0) rfl rfl rfl ?_))))
 refine QA (vs := [_, _]) rfl rfl rfl (by rfl) ?_
 refine Qh rfl rfl (by repeat' constructor) (rKinds10_spec _ _) ?_
 rintro _ _ ⟨a9, c9, rfl, rfl⟩
 simp only [Qr]
 refine Qe rfl rfl (WpL.nil (Qb (Qb (Qa (Qe rfl rfl (WpL.nil (Wp.block ?_)))))))
 have hk7 := kinds_len (C := C) (M := M)
 refine Wp.loopD (σ := Nat) (fun i => i ≤ (QN C M).length ∧ ∀ q ∈ (QN C M).take i, q ≠ k) [4, 6, 10, 11, 12, 13, 14, 15, 16, 17, 18, 19, 20, 21, 22, 23] (fun i => [(6, .int .i64 (i : Int))]) (fun i => QL 3 1 a9 c9 (QN C M).length (QZ (QN C M)) :: QB gI [.int .i64 C, .int .i64 M, .int .i64 W, .int .i64 H, .slice a px.length c] 71 :: As) (fun i => (QN C M).length - i) 0 ?_ (by repeat (first | exact FrLe.nil | refine FrLe.cons rfl ?_)) ?_ ?_
 ·exact ⟨Nat.zero_le _, by simp⟩
 ·exact Ent.refl _
 ·rintro i ⟨hi, hne⟩
  refine Qb (Qb (Qa (Qc rfl rfl (Qc rfl rfl (QH rfl rfl (Q4 rfl rfl rfl (WpL.nil (Qk rfl (fun h1 => ?_) (fun h1 => ?_)))))))))
  ·have hlt : i < (QN C M).length := by omega
   refine Wp.skip (Qb (Wp.block ?_))
   refine Qb (Qa (Qc rfl rfl (Qc rfl rfl (Q2 i rfl rfl rfl (QR (T := 3) (s := 1)) (by exact Take.ent' (by repeat' constructor)) rfl (by omega) (by rw [Q1]; omega) ?_))))
   refine Q8 rfl rfl (QR (T := 3) (s := 1)) (by exact Take.ent' (by repeat' constructor)) (Xm (QN C M) hlt) ?_
   refine Qc rfl rfl (QK rfl rfl rfl (WpL.nil (Qk rfl (fun h2 => ?_) (fun h2 => ?_))))
   ·have hkm : k ∈ QN C M := by have q := List.getElem_mem hlt; rwa [show (QN C M)[i] = k by assumption] at q
    refine Qb (Qa ?_)
    refine QA (vs := [_, _, _, _, _]) rfl rfl rfl (by rfl) ?_
    refine Qh rfl rfl (YY [_, _] As) (rMay10_spec As C M W H a c px hA hb hl) ?_
    rintro _ _ ⟨rfl, rfl⟩
    refine Qe rfl rfl (WpL.nil (Qi ?_))
    apply RetQ.mk
    ·exact (Res.one rfl rfl)
    ·exact ⟨congrArg Value.bool (decide_eq_decide.2 ⟨fun q => ⟨hkm, q⟩, fun q => q.2⟩), rfl⟩
    ·exact Ent.left _ _
   ·refine Wp.skip (Qa (Qc rfl rfl (QE rfl rfl rfl (Qt (by omega) (by omega)) ?_)))
    refine Qe rfl rfl (WpL.nil (Qw (i + 1) ?_ ?_ (by ((repeat (first | exact Top.refl | refine Top.push rfl ?_)); done)) (by repeat (first | exact FrLe.nil | refine FrLe.cons rfl ?_)) ?_))
    ·refine ⟨by omega, ?_⟩
     rw [Z8 _ hlt]
     intro q hq
     rcases List.mem_append.1 hq with hq | hq
     ·exact hne q hq
     ·rw [List.mem_singleton.1 hq]; assumption
    ·omega
    ·exact Ent.refl _
  ·refine QJ (Qb (Qa (Qe rfl rfl (WpL.nil (Qi ?_)))))
   apply RetQ.mk
   ·exact (Res.one rfl rfl)
   ·rw [show i = (QN C M).length by omega, List.take_length] at hne
    exact ⟨by rw [decide_eq_false (fun q => hne _ q.1 rfl)], rfl⟩
   ·exact Ent.drop (Ent.drop (Ent.refl _))

end Go.Proofs.YtggamdlpiejbiaaGreat
namespace Go.Proofs.YtggamdlpiejbiaaGreat
open Go.RowKit Go.Shelf

theorem Decimal6_spec (n : Int) (h0 : 0 ≤ n) (h1 : n ≤ 1000000) : Fn Tryz.prog 118 #[.int .i64 n] [] (fun v l => ∃ s, v = .string s ∧ QW s = Xu n.toNat ∧ l = []) := by
 refine Ql (vs := [.int .i64 n]) Tryz.func118 rfl Tryz.ntmps118 rfl (Qb (Qa (Qe rfl rfl (WpL.nil (Qb (Qa (Qc rfl rfl (YA rfl rfl rfl (by omega) (by omega) ?_))))))))
 refine Qe rfl rfl (WpL.nil (Qb (Qb (Qa (Qc rfl rfl (Q4 rfl rfl rfl (WpL.nil (Qz rfl (by omega) ?_))))))))
 refine Wp.skip (Qb (Qa (Qc rfl rfl (QE rfl rfl rfl (Qt (by omega) (by omega)) ?_))))
 refine X3 rfl Tryz.underlying3 rfl (w_u8 (by omega) (by omega)) ?_
 refine Yp rfl rfl rfl rfl ?_
 intro g1
 rw [show ([.int .u8 (48 + n % 10)] : List Value) = Xh [48 + n % 10] from rfl]
 refine s_b2s (xs := [48 + n % 10]) rfl Tryz.underlying22 Tryz.underlying5 Tryz.underlying9 rfl rfl (Qe rfl rfl (WpL.nil (Qb (Qb (Qa (Qc rfl rfl (Y5 rfl rfl rfl (Qc rfl rfl (Qx (dj := 18) rfl (decide_eq_true (by omega)) ?_)))))))))
 refine Qf rfl rfl (Qc rfl rfl (Qf rfl rfl (Q4 rfl rfl rfl (Qs rfl rfl rfl (WpL.nil (Qk rfl (fun h1 => ?_) (fun h1 => ?_)))))))
 ·refine Qb (Qb (Qa (Qc rfl rfl (Q4 rfl rfl rfl (WpL.nil (Qz rfl (by omega) ?_))))))
  refine Wp.skip (Qb (Qa (Qc rfl rfl (Qe rfl rfl (WpL.nil (Qi ?_))))))
  apply RetQ.mk
  ·exact (Res.one rfl rfl)
  ·exact ⟨_, rfl, by rw [Yk (by intro x hx; simp at hx; omega), Xu, if_pos (by omega)]; congr 1; omega, rfl⟩
  ·exact Ent.nil _
 ·refine Wp.skip (Qb (Qa (Qc rfl rfl (Zp rfl rfl rfl (by omega) (by omega) (Qt (by omega) (by omega)) ?_))))
  refine Qh rfl rfl (by repeat' constructor) (Decimal6_spec (n / 10) (by omega) (by omega)) ?_
  rintro _ _ ⟨s1, rfl, hs1, rfl⟩
  simp only [Qr]
  have hsz1 : s1.size ≤ 1000001 := by rw [← Xj, hs1]; have := X9 (n / 10).toNat; omega
  refine Qc rfl rfl (Yc rfl rfl rfl (by rw [YB]; simp; omega) ?_)
  refine Qe rfl rfl (WpL.nil (Qi ?_))
  apply RetQ.mk
  ·exact (Res.one rfl rfl)
  ·exact ⟨_, rfl, by rw [XQ, hs1, Yk (by intro x hx; simp at hx; omega), digs_rec (n := n) (by omega)], rfl⟩
  ·exact Ent.nil _
termination_by n.toNat
decreasing_by omega


def hdW (K W H M : Int) : List Int := [80] ++ Xu K.toNat ++ [10] ++ Xu W.toNat ++ [32] ++ Xu H.toNat ++ [10] ++ (if K = 1 ∨ K = 4 then [] else Xu M.toNat ++ [10])
theorem lit1 (x : UInt8) : (ByteArray.mk #[x]).size = 1 := rfl
theorem Zv (n : Int) (h0 : 0 ≤ n) (h1 : n ≤ 1000000) : Fn Tryz.prog 118 #[.int .i64 n] [] (fun v l => v = .string (strOfNums (Xu n.toNat)) ∧ l = []) := by
  refine Fn.mono (Decimal6_spec n h0 h1) ?_
  rintro v l ⟨s, rfl, hs, rfl⟩
  exact ⟨_, ⟨by rw [bsOf_inj (hs.trans (Zl _).symm)], rfl⟩, Ent.nil _⟩
theorem Zz {n : Int} (h : n ≤ 1000000) : (strOfNums (Xu n.toNat)).size ≤ 1000001 := by
  rw [YB]
  have := X9 n.toNat
  omega

theorem rWrite06_spec (K W H M : Int) (hM : Xt K W H M) : Fn Tryz.prog 68 #[.agg #[.int .i64 K, .int .i64 W, .int .i64 H, .int .i64 M]] [] (fun v l => ∃ s, QW s = hdW K W H M ∧ v = .tuple #[.string s, .int .i64 0] ∧ l = []) := by
 have hM2 := hM
 unfold Xt at hM2
 have hs1 := Zz (n := K) (by omega)
 have hs2 := Zz (n := W) (by omega)
 have hs3 := Zz (n := H) (by omega)
 have hs4 := Zz (n := M) (by omega)
 refine Ql (vs := [.agg #[.int .i64 K, .int .i64 W, .int .i64 H, .int .i64 M]]) Tryz.func68 rfl Tryz.ntmps68 rfl (Qb (Qa (QV rfl rfl rfl ?_)))
 intro gH
 refine Qe rfl rfl (Qe rfl rfl (WpL.nil (Qb (Qa ?_))))
 refine QA (vs := [_, _, _, _]) rfl rfl rfl (by rfl) ?_
 refine Qh rfl rfl (by repeat' constructor) (rMay06_spec _ _ _ _) ?_
 rintro _ _ ⟨rfl, rfl⟩
 simp only [Qr]
 refine Qe rfl rfl (WpL.nil (Qb (Qb (Qa (Qc rfl rfl (XH rfl rfl (WpL.nil (Qk rfl (fun h0 => ?_) (fun h0 => ?_)))))))))
 ·exfalso; exact absurd hM h0
 ·refine Wp.skip (Qb ?_)
  apply QU mixed [⟨10, _, []⟩, ⟨11, _, [0]⟩, ⟨12, _, [1]⟩, ⟨13, _, [2]⟩, ⟨14, _, [3]⟩, ⟨15, _, []⟩, ⟨16, _, [5]⟩, ⟨17, _, [6, 2]⟩, ⟨18, _, [4, 7]⟩, ⟨19, _, [8]⟩, ⟨20, _, []⟩, ⟨21, _, [10]⟩, ⟨22, _, [11, 7]⟩, ⟨23, _, [9, 12]⟩, ⟨24, _, [13]⟩, ⟨5, _, [14, 12, 0, 1, 2, 3, 4, 5, 6, 7, 8, 9, 10, 11, 13]⟩] rfl
  ·refine AllObs.mk ?_ ?_
   ·exact Qj (o2 := 0) rfl rfl rfl (Qn rfl)
   refine AllObs.mk ?_ ?_
   ·refine Qo rfl rfl (by rfl) ?_
    exact Qn rfl
   refine AllObs.mk ?_ ?_
   ·refine Qh rfl rfl (by repeat' constructor) (Zv _ (by omega) (by omega)) ?_
    rintro _ _ ⟨rfl, rfl⟩
    simp only [Qr]
    exact WpL.nil ⟨rfl, rfl, rfl, by exact Ent.refl _⟩
   refine AllObs.mk ?_ ?_
   ·refine Yc rfl rfl rfl (by simp only [lit1]; omega) ?_
    exact Qn rfl
   refine AllObs.mk ?_ ?_
   ·refine Yc rfl rfl rfl (by simp only [ByteArray.size_append, lit1]; omega) ?_
    exact Qn rfl
   refine AllObs.mk ?_ ?_
   ·exact Qj (o2 := 1) rfl rfl rfl (Qn rfl)
   refine AllObs.mk ?_ ?_
   ·refine Qo rfl rfl (by rfl) ?_
    exact Qn rfl
   refine AllObs.mk ?_ ?_
   ·refine Qh rfl rfl (by repeat' constructor) (Zv _ (by omega) (by omega)) ?_
    rintro _ _ ⟨rfl, rfl⟩
    simp only [Qr]
    exact WpL.nil ⟨rfl, rfl, rfl, by exact Ent.refl _⟩
   refine AllObs.mk ?_ ?_
   ·refine Yc rfl rfl rfl (by simp only [ByteArray.size_append, lit1]; omega) ?_
    exact Qn rfl
   refine AllObs.mk ?_ ?_
   ·refine Yc rfl rfl rfl (by simp only [ByteArray.size_append, lit1]; omega) ?_
    exact Qn rfl
   refine AllObs.mk ?_ ?_
   ·exact Qj (o2 := 2) rfl rfl rfl (Qn rfl)
   refine AllObs.mk ?_ ?_
   ·refine Qo rfl rfl (by rfl) ?_
    exact Qn rfl
   refine AllObs.mk ?_ ?_
   ·refine Qh rfl rfl (by repeat' constructor) (Zv _ (by omega) (by omega)) ?_
    rintro _ _ ⟨rfl, rfl⟩
    simp only [Qr]
    exact WpL.nil ⟨rfl, rfl, rfl, by exact Ent.refl _⟩
   refine AllObs.mk ?_ ?_
   ·refine Yc rfl rfl rfl (by simp only [ByteArray.size_append, lit1]; omega) ?_
    exact Qn rfl
   refine AllObs.mk ?_ ?_
   ·refine Yc rfl rfl rfl (by simp only [ByteArray.size_append, lit1]; omega) ?_
    exact Qn rfl
   refine AllObs.mk ?_ ?_
   ·exact Qe rfl rfl (Qn rfl)
   exact AllObs.nil
  ·refine Qb (Qb (Qa (Qj (o2 := 0) rfl rfl rfl (Qo rfl rfl (by rfl) ?_))))
   refine Qh rfl rfl (by repeat' constructor) (rbits_spec _) ?_
   rintro _ _ ⟨rfl, rfl⟩
   simp only [Qr]
   refine XH rfl rfl (WpL.nil (Qk rfl (fun h1 => ?_) (fun h1 => ?_)))
   ·refine Qa (Qc rfl rfl (Qj (o2 := 3) rfl rfl rfl (Qo rfl rfl (by rfl) ?_)))
    refine Qh rfl rfl (by repeat' constructor) (Zv _ (by omega) (by omega)) ?_
    rintro _ _ ⟨rfl, rfl⟩
    simp only [Qr]
    refine Yc rfl rfl rfl (by simp only [ByteArray.size_append, lit1]; omega) ?_
    refine Yc rfl rfl rfl (by simp only [ByteArray.size_append, lit1]; omega) ?_
    refine Qe rfl rfl (WpL.nil (Qb (Qa (Qc rfl rfl (Qe rfl rfl (Qe rfl rfl (WpL.nil (Qi ?_))))))))
    apply RetQ.mk
    ·exact (QC rfl rfl rfl)
    ·exact ⟨_, by simp only [XQ, Zl]; rw [hdW, if_neg (by assumption)]; simp [QW], rfl, rfl⟩
    ·exact Ent.nil _
   ·refine Wp.skip (Qb (Qa (Qc rfl rfl (Qe rfl rfl (Qe rfl rfl (WpL.nil (Qi ?_)))))))
    apply RetQ.mk
    ·exact (QC rfl rfl rfl)
    ·exact ⟨_, by simp only [XQ, Zl]; rw [hdW, if_pos (Classical.not_not.1 (by assumption))]; simp [QW], rfl, rfl⟩
    ·exact Ent.nil _

end Go.Proofs.YtggamdlpiejbiaaGreat
namespace Go.Proofs.YtggamdlpiejbiaaGreat
open Go.RowKit Go.Shelf


/-- The bits of a byte so far. -/
def hv (l : List Int) (j : Nat) : Nat → Int
  | 0 => 0
  | t + 1 => hv l j t * 2 + (l[8 * j + t]?.getD 0)
theorem hv_T {l : List Int} {j t : Nat} (h : 8 * j + t < l.length) : hv l j (t + 1) = hv l j t * 2 + l[8 * j + t] := by
  rw [hv, List.getElem?_eq_getElem h]
  rfl
theorem hv_F {l : List Int} {j t : Nat} (h : l.length ≤ 8 * j + t) : hv l j (t + 1) = hv l j t * 2 := by
  rw [hv, List.getElem?_eq_none h]
  simp
theorem hv_pow {l : List Int} (h : ∀ x ∈ l, Zc x) (j : Nat) : ∀ t, 0 ≤ hv l j t ∧ hv l j t < 2 ^ t
  | 0 => by simp [hv]
  | t + 1 => by
    have ih := hv_pow h j t
    have h2 : (2 : Int) ^ (t + 1) = 2 ^ t * 2 := Int.pow_succ ..
    rcases Nat.lt_or_ge (8 * j + t) l.length with hl | hl
    · rw [hv_T hl, h2]
      have hb := h _ (List.getElem_mem hl)
      unfold Zc at hb
      omega
    · rw [hv_F hl, h2]
      omega
theorem hv_bd {l : List Int} (h : ∀ x ∈ l, Zc x) (j : Nat) {t : Nat} (ht : t ≤ 8) : 0 ≤ hv l j t ∧ hv l j t ≤ 255 := by
  have h1 := hv_pow h j t
  have h2 : (2 : Int) ^ t ≤ 256 := (show ∀ s : Fin 9, (2 : Int) ^ s.val ≤ 256 by decide) ⟨t, by omega⟩
  omega
theorem hv_8 (l : List Int) (j : Nat) : hv l j 8 = XN l j := by
  unfold XN byteOf
  simp only [hv, ← List.getElem?_drop]
  generalize l.drop (8 * j) = ys
  rcases ys with _ | ⟨a, _ | ⟨b, _ | ⟨c, _ | ⟨d, _ | ⟨e, _ | ⟨f, _ | ⟨g, _ | ⟨h, ys⟩⟩⟩⟩⟩⟩⟩⟩ <;> simp only [bw, List.getElem?_cons_zero, List.getElem?_cons_succ, List.getElem?_nil, Option.getD_some, Option.getD_none, List.take_succ_cons, List.take_nil, List.take_zero, Nat.reduceSub, Int.reducePow] <;> omega
theorem packB_end {l : List Int} {k : Nat} (h : l.length ≤ 8 * k) (hk : k ≤ (l.length + 7) / 8) : (List.range k).map (XN l) = Yb l := by rw [Yb, show k = (l.length + 7) / 8 by omega]

theorem rPack07_spec (A0 : HP) (a0 : Option Addr) (c0 : Nat) (row : List Int) (hA : RdsL [A0] a0 (QZ row)) (hb : ∀ x ∈ row, Zc x) (h1 : 1 ≤ row.length) (h2 : row.length ≤ 4096) : Fn Tryz.prog 121 #[.slice a0 row.length c0] [A0] (fun v l => ∃ a c, v = .tuple #[.slice a (Yb row).length c, .int .i64 0] ∧ l = [QL 5 1 a c (Yb row).length (Xh (Yb row)), A0]) := by
 refine Ql (vs := [.slice a0 row.length c0]) Tryz.func121 rfl Tryz.ntmps121 rfl (Qb (Qa (Qe rfl rfl (Qe rfl rfl (WpL.nil (Qb (Qb (Qa (Qc rfl rfl (QH rfl rfl (Q4 rfl rfl rfl (Qc rfl rfl ?_))))))))))))
 refine Qu (dj := 11) rfl (decide_eq_false (by omega)) ?_
 refine Qf rfl rfl (Qc rfl rfl (Qf rfl rfl (QH rfl rfl (Qf rfl rfl (Y5 rfl rfl rfl (Qq rfl rfl rfl (WpL.nil (Qk rfl (fun h0 => ?_) (fun h0 => ?_)))))))))
 ·exfalso; omega
 ·refine Wp.skip (Qb (Qa (Qe rfl rfl (WpL.nil (Qb (Qb (Qa (Qe rfl rfl (WpL.nil (Wp.block ?_))))))))))
  refine Wp.loopD (σ := KdX) (fun x => x.k ≤ (row.length + 7) / 8 ∧ x.out = (List.range x.k).map (XN row)) [2, 3, 4, 5, 6, 7, 16, 17, 18, 19, 20, 21, 22, 23, 24, 25, 26, 27, 28, 29, 30, 31, 32, 33, 34, 35, 36, 37, 38, 39, 40, 41, 42, 43, 44, 45, 46, 47, 48, 49, 50, 51, 52, 53, 54, 55, 56, 57] (fun x => [(5, .int .i64 (8 * (x.k : Int))), (4, .slice x.a x.out.length x.c)]) (fun x => [QL 5 1 x.a x.c x.out.length (Xh x.out), A0]) (fun x => (row.length + 7) / 8 - x.k) ⟨0, [], none, 0⟩ ?_ (by repeat (first | exact FrLe.nil | refine FrLe.cons rfl ?_)) ?_ ?_
  ·exact ⟨Nat.zero_le _, rfl⟩
  ·exact Ent.own_nil (Ent.refl _)
  ·rintro ⟨k, out, a, c⟩ ⟨hk, ho⟩
   dsimp only at hk ho ⊢
   have hol : out.length = k := by rw [ho]; simp
   refine Qb (Qb (Qa (Qc rfl rfl (Qc rfl rfl (QH rfl rfl (Q4 rfl rfl rfl (WpL.nil (Qk rfl (fun h2 => ?_) (fun h2 => ?_)))))))))
   ·have hlt : 8 * k < row.length := by omega
    refine Wp.skip (Qb (Wp.block ?_))
    refine Qb (Qa (Qe rfl rfl (WpL.nil (Qb (Qb (Qa (Qc rfl rfl (Qe rfl rfl (WpL.nil (Wp.block ?_))))))))))
    refine Wp.loopD (σ := Nat) (fun t => t ≤ 8) [2, 3, 6, 7, 23, 24, 25, 26, 27, 28, 29, 30, 31, 32, 33, 34, 35, 36, 37, 38, 39, 40, 41, 42, 43, 44, 45, 46, 47, 48, 49, 50, 51, 52] (fun t => [(7, .int .i64 (8 * (k : Int) + (t : Int))), (6, .int .i64 (hv row k t))]) (fun t => [QL 5 1 a c out.length (Xh out), A0]) (fun t => 8 - t) 0 ?_ (FrLe.cons (by first | exact congrArg (fun z => some (Value.int .i64 z)) (show 8 * (k : Int) = 8 * (k : Int) + ((0 : Nat) : Int) by omega)) (FrLe.cons rfl FrLe.nil)) ?_ ?_
    ·exact Nat.zero_le _
    ·exact Ent.refl _
    ·rintro t ht
     have hvb := hv_bd hb k ht
     refine Qb (Qb (Qa (Qc rfl rfl (Qc rfl rfl (QE rfl rfl rfl (Qt (by omega) (by omega)) ?_)))))
     refine Q4 rfl rfl rfl (WpL.nil (Qk rfl (fun h4 => ?_) (fun h4 => ?_)))
     ·have ht7 : t < 8 := by omega
      refine Wp.skip (Qb (Wp.block ?_))
      refine Qb (Qa (Qc rfl rfl (Xy rfl rfl rfl (Qt (by omega) (by omega)) ?_)))
      refine Qe rfl rfl (WpL.nil (Qb (Qa (Qc rfl rfl (Qc rfl rfl (QH rfl rfl (Q4 rfl rfl rfl (WpL.nil (Qk rfl (fun h5 => ?_) (fun h5 => ?_))))))))))
      ·have hl8 : 8 * k + t < row.length := by omega
       have hbk := hb _ (List.getElem_mem hl8)
       unfold Zc at hbk
       refine Qb (Qb (Qa (Qc rfl rfl (Qc rfl rfl (Q2 (8 * k + t) rfl rfl rfl hA (by exact Take.ent' (by repeat' constructor)) (by omega) (by omega) (by rw [Q1]; omega) ?_)))))
       refine Q8 rfl rfl hA (by exact Take.ent' (by repeat' constructor)) (Xm row hl8) ?_
       refine Xc rfl rfl rfl (Qc rfl rfl (QG rfl rfl rfl (fun hg2 => ?_) (fun hg2 => ?_)))
       ·have hg2 := of_decide_eq_true hg2
        refine Qc rfl rfl (Qf rfl rfl (Qc rfl rfl (Qf rfl rfl (Q2 (8 * k + t) rfl rfl rfl hA (by exact Take.ent' (by repeat' constructor)) (by omega) (by omega) (by rw [Q1]; omega) ?_))))
        refine Qf rfl rfl (Q8 rfl rfl hA (by exact Take.ent' (by repeat' constructor)) (Xm row hl8) ?_)
        refine Qf rfl rfl (Xc rfl rfl rfl (Qs rfl rfl rfl (WpL.nil (Qk rfl (fun h6 => ?_) (fun h6 => ?_)))))
        ·exfalso; omega
        ·refine Wp.skip (Qa (Qc rfl rfl (Qc rfl rfl (Qc rfl rfl (Q2 (8 * k + t) rfl rfl rfl hA (by exact Take.ent' (by repeat' constructor)) (by omega) (by omega) (by rw [Q1]; omega) ?_)))))
         refine Q8 rfl rfl hA (by exact Take.ent' (by repeat' constructor)) (Xm row hl8) ?_
         refine QE rfl rfl rfl (Qt (by omega) (by omega)) ?_
         refine Qe rfl rfl (WpL.nil (Qa (Qc rfl rfl (QE rfl rfl rfl (Qt (by omega) (by omega)) ?_))))
         refine Qe rfl rfl (WpL.nil (Qw (t + 1) ?_ ?_ (by ((repeat (first | exact Top.refl | refine Top.push rfl ?_)); done)) (FrLe.cons (by first | exact congrArg (fun z => some (Value.int .i64 z)) (show 8 * (k : Int) + (t : Int) + 1 = 8 * (k : Int) + ((t + 1 : Nat) : Int) by omega)) (FrLe.cons (by exact congrArg (fun z => some (Value.int .i64 z)) ((hv_T hl8).symm)) FrLe.nil)) ?_))
         ·omega
         ·omega
         ·exact Ent.refl _
       ·have hg2 := of_decide_eq_false hg2
        refine Qd rfl rfl rfl (by decide) (Qd rfl rfl rfl (by decide) (Qd rfl rfl rfl (by decide) (Qd rfl rfl rfl (by decide) (Qq rfl rfl rfl (WpL.nil (Q0 rfl (Wp.skip (Qa (Qc rfl rfl (Qc rfl rfl (Qc rfl rfl (Q2 (8 * k + t) rfl rfl rfl hA (by exact Take.ent' (by repeat' constructor)) (by omega) (by omega) (by rw [Q1]; omega) ?_))))))))))))
        refine Q8 rfl rfl hA (by exact Take.ent' (by repeat' constructor)) (Xm row hl8) ?_
        refine QE rfl rfl rfl (Qt (by omega) (by omega)) ?_
        refine Qe rfl rfl (WpL.nil (Qa (Qc rfl rfl (QE rfl rfl rfl (Qt (by omega) (by omega)) ?_))))
        refine Qe rfl rfl (WpL.nil (Qw (t + 1) ?_ ?_ (by ((repeat (first | exact Top.refl | refine Top.push rfl ?_)); done)) (FrLe.cons (by first | exact congrArg (fun z => some (Value.int .i64 z)) (show 8 * (k : Int) + (t : Int) + 1 = 8 * (k : Int) + ((t + 1 : Nat) : Int) by omega)) (FrLe.cons (by exact congrArg (fun z => some (Value.int .i64 z)) ((hv_T hl8).symm)) FrLe.nil)) ?_))
        ·omega
        ·omega
        ·exact Ent.refl _
      ·have hl8 : row.length ≤ 8 * k + t := by omega
       refine Wp.skip (Qa (Qc rfl rfl (QE rfl rfl rfl (Qt (by omega) (by omega)) ?_)))
       refine Qe rfl rfl (WpL.nil (Qw (t + 1) ?_ ?_ (by ((repeat (first | exact Top.refl | refine Top.push rfl ?_)); done)) (FrLe.cons (by first | exact congrArg (fun z => some (Value.int .i64 z)) (show 8 * (k : Int) + (t : Int) + 1 = 8 * (k : Int) + ((t + 1 : Nat) : Int) by omega)) (FrLe.cons (by exact congrArg (fun z => some (Value.int .i64 z)) (hv_F hl8).symm) FrLe.nil)) ?_))
       ·omega
       ·omega
       ·exact Ent.refl _
     ·obtain rfl : t = 8 := by omega
      rw [hv_8]
      have hbb := byteAt_bd hb k
      refine QJ (Qa (Qc rfl rfl (Qc rfl rfl (X3 rfl Tryz.underlying3 rfl (w_u8 (by omega) (by omega)) ?_))))
      refine Yp rfl rfl rfl rfl ?_
      intro g1
      refine XZ rfl rfl rfl (by repeat' constructor) (by rfl) (by rfl) (by rfl) (by rfl) (by omega) (by omega) ?_
      intro a57 c57
      rw [Zr, show out.length + 1 = (out ++ [(XN row k)]).length from by simp]
      refine Qe rfl rfl (WpL.nil (Qa (Qc rfl rfl (QE rfl rfl rfl (Qt (by omega) (by omega)) ?_))))
      refine Qe rfl rfl (WpL.nil (Qw (⟨k + 1, out ++ [XN row k], a57, c57⟩ : KdX) ?_ ?_ (by ((repeat (first | exact Top.refl | refine Top.push rfl ?_)); done)) (FrLe.cons (by first | exact congrArg (fun z => some (Value.int .i64 z)) (show 8 * (k : Int) + 8 = 8 * ((k + 1 : Nat) : Int) by omega)) (FrLe.cons rfl FrLe.nil)) ?_))
      ·exact ⟨by simp only; omega, by simp only; rw [List.range_succ, List.map_append, ho]; rfl⟩
      ·simp only; omega
      ·exact Ent.refl _
   ·have ho2 : out = Yb row := by rw [ho, packB_end (by omega) hk]
    subst ho2
    refine QJ (Qb (Qa (Qc rfl rfl (Qe rfl rfl (Qe rfl rfl (WpL.nil (Qi ?_)))))))
    apply RetQ.mk
    ·exact (QC rfl rfl rfl)
    ·exact ⟨a, c, rfl, rfl⟩
    ·exact Ent.refl _

end Go.Proofs.YtggamdlpiejbiaaGreat
namespace Go.Proofs.YtggamdlpiejbiaaGreat
open Go.RowKit Go.Shelf


/-- How far a raw raster's bytes are made. -/
def WrI (K : Int) (W w : Nat) (px : List Int) (i y x : Nat) (out row : List Int) : Prop :=
  (K = 4 ∧ i = y * W + x ∧ x < W ∧ row = ((px.drop (y * W)).take x).flatMap Qm ∧ out = Q5 K W w px y) ∨ (K ≠ 4 ∧ row = [] ∧ out = ((px.take i).flatMap Qm).flatMap (Ya w))
theorem WrI.zero {K : Int} {W w : Nat} {px : List Int} (hW : 1 ≤ W) : WrI K W w px 0 0 0 [] [] := by
  by_cases h : K = 4
  · exact .inl ⟨h, by simp, by omega, by simp, by simp [Q5, Zs]⟩
  · exact .inr ⟨h, rfl, by simp⟩
theorem dt_snoc {px : List Int} {y W x : Nat} (h : y * W + x < px.length) : (px.drop (y * W)).take (x + 1) = (px.drop (y * W)).take x ++ [px[y * W + x]] := by
  rw [Z8 _ (by rw [List.length_drop]; omega), List.getElem_drop]
theorem WrI.row {K : Int} {W w : Nat} {px : List Int} {i y x : Nat} {out row : List Int} (h : WrI K W w px i y x out row) (hK : K = 4) (hi : i < px.length) : ((px.drop (y * W)).take (x + 1)).flatMap Qm = row ++ Qm px[i] := by
  rcases h with ⟨_, h1, _, h2, _⟩ | ⟨h1, _⟩
  · subst h1
    rw [dt_snoc hi, List.flatMap_append, h2]
    simp
  · exact absurd hK h1
theorem WrI.four {K : Int} {W w : Nat} {px : List Int} {i y x : Nat} {out row : List Int} (h : WrI K W w px i y x out row) (hK : K = 4) (hi : i < px.length) (hx : x + 1 < W) : WrI K W w px (i + 1) y (x + 1) out (row ++ Qm px[i]) := by
  have hr := h.row hK hi
  rcases h with ⟨_, h1, _, h2, h3⟩ | ⟨h1, _⟩
  · exact .inl ⟨hK, by omega, hx, hr.symm, h3⟩
  · exact absurd hK h1
theorem WrI.full {K : Int} {W w : Nat} {px : List Int} {i y x : Nat} {out row : List Int} (h : WrI K W w px i y x out row) (hK : K = 4) (hi : i < px.length) (hx : x + 1 = W) : WrI K W w px (i + 1) (y + 1) 0 (out ++ Yb (row ++ Qm px[i])) [] := by
  have hr := h.row hK hi
  rcases h with ⟨_, h1, _, h2, h3⟩ | ⟨h1, _⟩
  · refine .inl ⟨hK, by rw [Nat.add_mul]; omega, by omega, by simp, ?_⟩
    rw [YT, h3, ← hr, hx]
    unfold YN
    rw [if_pos hK]
  · exact absurd hK h1
theorem WrI.more {K : Int} {W w : Nat} {px : List Int} {i y x : Nat} {out row : List Int} (h : WrI K W w px i y x out row) (hK : K ≠ 4) (hi : i < px.length) : WrI K W w px (i + 1) y x (out ++ (Qm px[i]).flatMap (Ya w)) [] := by
  rcases h with ⟨h1, _⟩ | ⟨_, _, h2⟩
  · exact absurd h1 hK
  · refine .inr ⟨hK, rfl, ?_⟩
    rw [Z8 px hi, List.flatMap_append, List.flatMap_append, h2]
    simp
theorem WrI.rown {K : Int} {W w : Nat} {px : List Int} {i y x : Nat} {out row : List Int} (h : WrI K W w px i y x out row) (hK : K ≠ 4) : row = [] := by
  rcases h with ⟨h1, _⟩ | ⟨_, h2, _⟩
  · exact absurd h1 hK
  · exact h2
theorem wr_flat {K : Int} {W w : Nat} {px : List Int} (hK : K ≠ 4) : ∀ n, Q5 K W w px n = ((px.take (n * W)).flatMap Qm).flatMap (Ya w)
  | 0 => by simp [Q5, Zs]
  | n + 1 => by
    rw [YT, wr_flat hK n, YN, if_neg hK, Nat.add_mul, Nat.one_mul, List.take_add, List.flatMap_append, List.flatMap_append]
theorem WrI.done {K : Int} {W w : Nat} {px : List Int} {i y x H : Nat} {out row : List Int} (h : WrI K W w px i y x out row) (hW : 1 ≤ W) (hi : i = px.length) (hp : px.length = W * H) : out = Q5 K W w px H := by
  rcases h with ⟨_, h1, h2, _, h3⟩ | ⟨h1, _, h2⟩
  · have e : y * W + x = H * W := by rw [← h1, hi, hp, Nat.mul_comm]
    have hy : y = H := by
      rcases Nat.lt_trichotomy y H with hl | hl | hl
      · have := Nat.mul_le_mul_right W (show y + 1 ≤ H from hl)
        rw [Nat.add_mul] at this
        omega
      · exact hl
      · have := Nat.mul_le_mul_right W (show H + 1 ≤ y from hl)
        rw [Nat.add_mul] at this
        omega
    rw [h3, hy]
  · rw [wr_flat h1, h2, hi, Nat.mul_comm H W, ← hp]

end Go.Proofs.YtggamdlpiejbiaaGreat
