/- Walks and plain laws, a part of the proof of ImageTurns: every input that the law's guards let in, no condition beside. -/
import Derived.Test.YtggamdlpiejbiaaGreatM06
namespace Go.Proofs.YtggamdlpiejbiaaGreat
open Go.RowKit Go.Shelf


/-- A pixel's samples, joined. -/
def XT : List Int → Int → Int
  | [], p => p
  | n :: l, p => XT l (p * 65536 + n)
def smp (n : Int) : Prop := 0 ≤ n ∧ n ≤ 65535
instance (n : Int) : Decidable (smp n) := by unfold smp; infer_instance
theorem packF_snoc (l : List Int) (n p : Int) : XT (l ++ [n]) p = XT l p * 65536 + n := by
  induction l generalizing p with
  | nil => rfl
  | cons m l ih => exact ih _
theorem packF_bd (l : List Int) (h : ∀ n ∈ l, smp n) : 0 ≤ XT l 0 ∧ XT l 0 < 65536 ^ l.length := by
  suffices ∀ (l : List Int) (p : Int) (k : Nat), (∀ n ∈ l, smp n) → 0 ≤ p → p < 65536 ^ k → 0 ≤ XT l p ∧ XT l p < 65536 ^ (k + l.length) by
    have := this l 0 0 h (by omega) (by simp)
    simpa using this
  intro l
  induction l with
  | nil => intro p k _ h0 h1; exact ⟨h0, by simp [XT]; exact h1⟩
  | cons n l ih =>
    intro p k hs h0 h1
    have hn := hs n (by simp)
    unfold smp at hn
    have := ih (p * 65536 + n) (k + 1) (fun m hm => hs m (by simp [hm])) (by omega) (by rw [Int.pow_succ]; omega)
    simp only [List.length_cons]
    rw [show k + (l.length + 1) = k + 1 + l.length by omega]
    exact this
theorem Xd (l : List Int) {k : Nat} (h : k < l.length) : l.take (k + 1) = l.take k ++ [l[k]] := by
  rw [List.take_succ_eq_append_getElem h]
def Xy (l : List Int) : Int × Int := if l.length ≠ 1 ∧ l.length ≠ 3 then (0, 1) else if (l.all fun n => decide (0 ≤ n ∧ n ≤ 65535)) = true then (XT l 0 + l.length * 281474976710656, 0) else (0, 4)
theorem packS_bad (l : List Int) (h : l.length = 1 ∨ l.length = 3) {k : Nat} (hk : k < l.length) (hb : ¬ smp l[k]) : Xy l = (0, 4) := by
  unfold Xy
  rw [if_neg (by omega), if_neg]
  intro ha
  have := List.all_eq_true.1 ha l[k] (List.getElem_mem hk)
  exact hb (by simpa [smp] using this)
theorem packS_ok (l : List Int) (h : l.length = 1 ∨ l.length = 3) (hs : ∀ n ∈ l, smp n) : Xy l = (XT l 0 + l.length * 281474976710656, 0) := by
  unfold Xy
  rw [if_neg (by omega), if_pos]
  exact List.all_eq_true.2 fun n hn => by have := hs n hn; unfold smp at this; simp; omega
theorem packF_step {l : List Int} {k : Nat} (hk : k < l.length) (h3 : l.length ≤ 3) (hs : ∀ n ∈ l.take k, smp n) : 0 ≤ XT (l.take k) 0 ∧ XT (l.take k) 0 < 4294967296 := by
  have h := packF_bd _ hs
  refine ⟨h.1, Int.lt_of_lt_of_le h.2 ?_⟩
  have : (l.take k).length ≤ 2 := by rw [List.length_take]; omega
  have e : (l.take k).length = 0 ∨ (l.take k).length = 1 ∨ (l.take k).length = 2 := by omega
  rcases e with e | e | e <;> rw [e] <;> decide
theorem packF_all {l : List Int} (h3 : l.length ≤ 3) (hs : ∀ n ∈ l, smp n) : 0 ≤ XT l 0 ∧ XT l 0 < 281474976710656 := by
  have h := packF_bd _ hs
  refine ⟨h.1, Int.lt_of_lt_of_le h.2 ?_⟩
  have e : l.length = 0 ∨ l.length = 1 ∨ l.length = 2 ∨ l.length = 3 := by omega
  rcases e with e | e | e | e <;> rw [e] <;> decide

theorem Pack_spec (As : List HP) (a : Option Addr) (c : Nat) (xs : List Int) (hA : RdsL As a (QU xs)) (hm : xs.length ≤ 281474976710656) : Fn Tryz.prog 186 #[.slice a xs.length c] As (fun v l => v = .tuple #[.int .u64 (Xy xs).1, .int .i64 (Xy xs).2] ∧ l = As) := by
 refine Qk (vs := [.slice a xs.length c]) Tryz.func186 rfl Tryz.ntmps186 rfl (Qb (Qa (Qe rfl rfl (Qe rfl rfl (WpL.nil ?_)))))
 refine Wp.cut (xs.length = 1 ∨ xs.length = 3) [2, 3, 7, 8, 9, 10, 11, 12, 13, 14] ?_ (fun hc0 => ?_)
 ·refine Qb (Qa (Qd rfl rfl (QK rfl rfl (Xj rfl rfl rfl (Qd rfl rfl (QH rfl rfl rfl (fun hg1 => ?_) (fun hg1 => ?_)))))))
  ·have hg1 := of_decide_eq_true hg1
   refine Qd rfl rfl (Qf rfl rfl (QK rfl rfl (Qf rfl rfl (Xj rfl rfl rfl (Qx rfl rfl rfl (WpL.nil (Qm rfl (fun h0 => ?_) (fun h0 => ?_))))))))
   ·refine Qb (Qa (Qe rfl rfl (Qe rfl rfl (WpL.nil (Qh ?_)))))
    apply RetQ.mk
    ·exact (QF rfl rfl rfl)
    ·exact ⟨by rw [Xy, if_pos (by omega)], rfl⟩
    ·exact Ent.refl _
   ·refine Wp.skip ?_
    refine Zd ?_ (by ((repeat (first | exact Top.refl | refine Top.push rfl ?_)); done)) (by exact Ent.refl _)
    omega
  ·have hg1 := of_decide_eq_false hg1
   refine Qc rfl rfl rfl (by decide) (Qc rfl rfl rfl (by decide) (Qq rfl rfl rfl (WpL.nil (QV rfl (Wp.skip ?_)))))
   refine Zd ?_ (by ((repeat (first | exact Top.refl | refine Top.push rfl ?_)); done)) (by exact Ent.refl _)
   omega
 ·refine Qb (Qa (Qe rfl rfl (WpL.nil (Qb (Qb (Qa (Qd rfl rfl (QK rfl rfl (Qd rfl rfl (WpL.nil (Wp.block ?_)))))))))))
  refine Wp.loopD (σ := Nat) (fun k => k ≤ xs.length ∧ ∀ n ∈ xs.take k, smp n) [2, 3, 4, 6, 17, 18, 19, 20, 21, 22, 23, 24, 25, 26, 27, 28, 29, 30, 31, 32] (fun k => [(17, .int .i64 (k : Int)), (4, .int .u64 (XT (xs.take k) 0))]) (fun _ => _) (fun k => xs.length - k) 0 ?_ (FrLe.cons rfl (FrLe.cons rfl FrLe.nil)) (Ent.refl _) ?_
  ·exact ⟨Nat.zero_le _, by simp⟩
  ·rintro k ⟨hk, hsm⟩
   refine Qb (Qa (Q6 rfl rfl rfl (WpL.nil (Qb (Qm rfl (fun h2 => ?_) (fun h2 => ?_))))))
   ·have hlt : k < xs.length := by omega
    refine Wp.skip (Qb (Wp.block ?_))
    refine Qb (Qa (Q3 k rfl rfl rfl hA (by (repeat (exact Ent.refl _))) rfl (by omega) (by simp only [lens]; omega) ?_))
    refine Xb rfl rfl hA (by (repeat (exact Ent.refl _))) (XX xs hlt) ?_
    refine Qe rfl rfl (WpL.nil ?_)
    refine Wp.cut (smp xs[k]) [2, 3, 21, 22, 23, 24, 25, 26] ?_ (fun hc3 => ?_)
    ·refine Qb (Qa (Qd rfl rfl (Q6 rfl rfl rfl (Qd rfl rfl (QH rfl rfl rfl (fun hg2 => ?_) (fun hg2 => ?_))))))
     ·have hg2 := of_decide_eq_false hg2
      refine Qd rfl rfl (Qf rfl rfl (s_gt rfl rfl rfl (Qq rfl rfl rfl (WpL.nil (Qm rfl (fun h3 => ?_) (fun h3 => ?_))))))
      ·refine Qb (Qa (Qe rfl rfl (Qe rfl rfl (WpL.nil (Qh ?_)))))
       apply RetQ.mk
       ·exact (QF rfl rfl rfl)
       ·exact ⟨by rw [packS_bad xs (by omega) hlt (by unfold smp; omega)], rfl⟩
       ·exact Ent.refl _
      ·refine Wp.skip ?_
       refine Zd ?_ (by ((repeat (first | exact Top.refl | refine Top.push rfl ?_)); done)) (by exact Ent.refl _)
       unfold smp; omega
     ·have hg2 := of_decide_eq_true hg2
      refine Qc rfl rfl rfl (by decide) (Qx rfl rfl rfl (WpL.nil (XG rfl (Qb (Qa (Qe rfl rfl (Qe rfl rfl (WpL.nil (Qh ?_)))))))))
      apply RetQ.mk
      ·exact (QF rfl rfl rfl)
      ·exact ⟨by rw [packS_bad xs (by omega) hlt (by unfold smp; omega)], rfl⟩
      ·exact Ent.refl _
    ·have hp := packF_step hlt (by omega) hsm
     have hgood := hc3
     unfold smp at hc3
     have hstep : XT (xs.take k) 0 * 65536 + xs[k] = XT (xs.take (k + 1)) 0 := by rw [Xd xs hlt, packF_snoc]
     refine Qa (Qd rfl rfl (s_shl 65536 rfl rfl rfl (by decide) (Zi (by omega) (by omega)) ?_))
     refine Qd rfl rfl (Ya rfl Tryz.underlying3 rfl (Zi (by omega) (by omega)) ?_)
     refine s_or (XT (xs.take k) 0) 16 rfl rfl rfl (by simp) hp.1 (by simp only [IntKind.bits]; omega) hc3.1 (by omega) (by decide) (Zi (by omega) (by omega)) ?_
     refine Qe rfl rfl (WpL.nil (Qa (QE rfl rfl rfl (Qt (by omega) (by omega)) ?_)))
     refine Qd rfl rfl (WpL.nil (Qy (k + 1) ?_ ?_ (by ((repeat (first | exact Top.refl | refine Top.push rfl ?_)); done)) (FrLe.cons rfl (FrLe.cons (congrArg (fun x => some (Value.int .u64 x)) hstep) FrLe.nil)) ?_))
     ·refine ⟨by omega, ?_⟩
      rw [Xd xs hlt]
      intro n hn
      rcases List.mem_append.1 hn with hn | hn
      ·exact hsm n hn
      ·have := List.mem_singleton.1 hn; subst this; exact hgood
     ·omega
     ·exact Ent.refl _
   ·have hke : k = xs.length := by omega
    have hsm' : ∀ n ∈ xs, smp n := by rw [hke, List.take_length] at hsm; exact hsm
    have hpa := packF_all (by omega) hsm'
    have hpt : XT (xs.take k) 0 = XT xs 0 := by rw [hke, List.take_length]
    refine QL (Qb (Qa (Qd rfl rfl (Qd rfl rfl (QK rfl rfl (Ya rfl Tryz.underlying3 rfl (Zi (by omega) (by omega)) ?_))))))
    refine s_shl 281474976710656 rfl rfl rfl (by decide) (Zi (by omega) (by omega)) ?_
    rw [hpt]
    refine s_orw xs.length 48 rfl rfl rfl (by simp) (by omega) (by simp only [IntKind.bits]; omega) hpa.1 (by omega) (by decide) (Zi (by omega) (by omega)) ?_
    refine Qe rfl rfl (Qe rfl rfl (WpL.nil (Qh ?_)))
    apply RetQ.mk
    ·exact (QF rfl rfl rfl)
    ·exact ⟨by rw [packS_ok xs (by omega) hsm', Int.add_comm], rfl⟩
    ·exact Ent.refl _


def Qp (p : Int) : List Int := if p / 281474976710656 = 3 then [p / 4294967296 % 65536, p / 65536 % 65536, p % 65536] else if p / 281474976710656 = 1 ∧ p / 4294967296 % 65536 = 0 ∧ p / 65536 % 65536 = 0 then [p % 65536] else []
/-- A slice handed back that may be read. -/
def SlI (v : Value) (l : List HP) (xs : List Int) : Prop := ∃ A a c, l = [A] ∧ v = .slice a xs.length c ∧ RdsL [A] a (QU xs) ∧ (xs = [] → a = none)
theorem SlI.nil {xs : List Int} (h : xs = []) : SlI (.slice none 0 0) [emp] xs := ⟨emp, none, 0, rfl, by simp [h], by rw [h]; exact RdsL.nil, fun _ => rfl⟩
theorem SlI.blk {g o T c m : Nat} {cs : List Value} {xs : List Int} (h : (cs.drop o).take xs.length = QU xs) (hm : xs.length = m) (hn : 0 < m) : SlI (.slice (some ⟨g, o, none⟩) m c) [QB g cs T] xs := by
  subst hm
  exact ⟨_, _, c, rfl, rfl, RdsL.blk (by rw [QX]; exact h), fun e => by rw [e] at hn; cases hn⟩

theorem XI (p : Int) (h0 : 0 ≤ p) (h1 : p < 18446744073709551616) : Fn Tryz.prog 139 #[.int .u64 p] [] (fun v l => SlI v l (Qp p)) := by
 refine Qk (vs := [.int .u64 p]) Tryz.func139 rfl Tryz.ntmps139 rfl (Qb (Qa (Qe rfl rfl (WpL.nil (Qb (Qa (Qd rfl rfl (s_shr 4294967296 rfl rfl rfl (by decide) (by decide) (s_and 65536 16 rfl rfl rfl (by decide) (by omega) (by simp only [IntKind.bits]; omega) (Zi (by omega) (by omega)) ?_)))))))))
 refine Ya rfl Tryz.underlying92 rfl (Qt (by omega) (by omega)) ?_
 refine Qd rfl rfl (s_shr 65536 rfl rfl rfl (by decide) (by decide) (s_and 65536 16 rfl rfl rfl (by decide) (by omega) (by simp only [IntKind.bits]; omega) (Zi (by omega) (by omega)) ?_))
 refine Ya rfl Tryz.underlying92 rfl (Qt (by omega) (by omega)) ?_
 refine Qd rfl rfl (s_and 65536 16 rfl rfl rfl (by decide) (by omega) (by simp only [IntKind.bits]; omega) (Zi (by omega) (by omega)) ?_)
 refine Ya rfl Tryz.underlying92 rfl (Qt (by omega) (by omega)) ?_
 refine XN rfl rfl ?_
 refine XK rfl ?_
 intro g1
 refine QY rfl rfl rfl (by rfl) rfl ?_
 refine WpL.nil (Qb (Wp.block ?_))
 refine Qb (Qa (Qd rfl rfl (s_shr 281474976710656 rfl rfl rfl (by decide) (by decide) (QO rfl rfl rfl (Qe rfl rfl (WpL.nil (Qm rfl (fun h0 => ?_) (fun h0 => ?_))))))))
 ·refine Qb (Qa (s_slar rfl rfl rfl (Qe rfl rfl (WpL.nil (Qh ?_)))))
  apply RetQ.mk
  ·exact (Res.one rfl rfl)
  ·have e : Qp p = [p / 4294967296 % 65536, p / 65536 % 65536, p % 65536] := by rw [Qp, if_pos (by omega)]
   rw [e]
   exact SlI.blk (T := 231) (o := 0) (cs := [.int .i64 (p / 4294967296 % 65536), .int .i64 (p / 65536 % 65536), .int .i64 (p % 65536)]) rfl rfl (by decide)
  ·exact Ent.refl _
 ·refine Qb (Qa (Qd rfl rfl (s_shr 281474976710656 rfl rfl rfl (by decide) (by decide) (QO rfl rfl rfl (Qd rfl rfl (QH rfl rfl rfl (fun hg1 => ?_) (fun hg1 => ?_)))))))
  ·have hg1 := of_decide_eq_true hg1
   refine s_ixar (i := 0) (o2 := 0) rfl rfl rfl rfl rfl (Qf rfl rfl (Qo rfl rfl (by rfl) ?_))
   refine Qf rfl rfl (QO rfl rfl rfl (Qx rfl rfl rfl (Qd rfl rfl (QH rfl rfl rfl (fun hg2 => ?_) (fun hg2 => ?_)))))
   ·have hg2 := of_decide_eq_true hg2
    refine s_ixar (i := 1) (o2 := 1) rfl rfl rfl rfl rfl (Qf rfl rfl (Qo rfl rfl (by rfl) ?_))
    refine Qf rfl rfl (QO rfl rfl rfl (Qx rfl rfl rfl (Qe rfl rfl (WpL.nil (Qm rfl (fun h1 => ?_) (fun h1 => ?_))))))
    ·refine Qb (Qa (s_slar2 (i := 2) (o2 := 2) rfl rfl rfl rfl rfl (Qe rfl rfl (WpL.nil (Qh ?_)))))
     apply RetQ.mk
     ·exact (Res.one rfl rfl)
     ·have e : Qp p = [p % 65536] := by rw [Qp, if_neg (by omega), if_pos (by omega)]
      rw [e]
      exact SlI.blk (T := 231) (o := 2) (cs := [.int .i64 (p / 4294967296 % 65536), .int .i64 (p / 65536 % 65536), .int .i64 (p % 65536)]) rfl rfl (by decide)
     ·exact Ent.refl _
    ·refine Wp.skip (Qb (Qa (Qe rfl rfl (WpL.nil (Qh ?_)))))
     apply RetQ.mk
     ·exact (Res.one rfl rfl)
     ·exact SlI.nil (by rw [Qp, if_neg (by omega), if_neg (by omega)])
     ·exact Yp (Ent.nil _)
   ·have hg2 := of_decide_eq_false hg2
    refine Qc rfl rfl rfl (by decide) (Qc rfl rfl rfl (by decide) (Qq rfl rfl rfl (Qe rfl rfl (WpL.nil (QV rfl (Wp.skip (Qb (Qa (Qe rfl rfl (WpL.nil (Qh ?_)))))))))))
    apply RetQ.mk
    ·exact (Res.one rfl rfl)
    ·exact SlI.nil (by rw [Qp, if_neg (by omega), if_neg (by omega)])
    ·exact Yp (Ent.nil _)
  ·have hg1 := of_decide_eq_false hg1
   refine Qc rfl rfl rfl (by decide) (Qc rfl rfl rfl (by decide) (Qq rfl rfl rfl (Qd rfl rfl (Qc rfl rfl rfl (by decide) (Qc rfl rfl rfl (by decide) (Qc rfl rfl rfl (by decide) (Qq rfl rfl rfl (Qe rfl rfl (WpL.nil (QV rfl (Wp.skip (Qb ?_))))))))))))
   refine Qa (Qe rfl rfl (WpL.nil (Qh ?_)))
   apply RetQ.mk
   ·exact (Res.one rfl rfl)
   ·exact SlI.nil (by rw [Qp, if_neg (by omega), if_neg (by omega)])
   ·exact Yp (Ent.nil _)

theorem rUnpack_spec (p : Int) (h0 : 0 ≤ p) (h1 : p < 18446744073709551616) : Fn Tryz.prog 99 #[.int .u64 p] [] (fun v l => SlI v l (Qp p)) := by
 refine Qk (vs := [.int .u64 p]) Tryz.func99 rfl Tryz.ntmps99 rfl (Qb (Qa (Qe rfl rfl (WpL.nil (Qb (Qa (Qd rfl rfl (Y5 rfl rfl rfl (by omega) (by omega) (Zi (by omega) (by omega)) ?_))))))))
 refine Qe rfl rfl (WpL.nil (Qb (Qa (Qd rfl rfl (Y6 rfl rfl rfl (by omega) (by omega) ?_)))))
 refine Ya rfl Tryz.underlying92 rfl (Qt (by omega) (by omega)) ?_
 refine Qe rfl rfl (WpL.nil (Qb (Qb (Qa (Qd rfl rfl (QO rfl rfl rfl (WpL.nil (Qm rfl (fun h0 => ?_) (fun h0 => ?_)))))))))
 ·refine Qb (Qa (Qd rfl rfl (Y5 rfl rfl rfl (by omega) (by omega) (Qt (by omega) (by omega)) ?_)))
  refine Qd rfl rfl (Y5 rfl rfl rfl (by omega) (by omega) (Qt (by omega) (by omega)) ?_)
  refine Y6 rfl rfl rfl (by omega) (by omega) ?_
  refine Qd rfl rfl (Y6 rfl rfl rfl (by omega) (by omega) ?_)
  refine s_bs3 rfl rfl rfl rfl rfl rfl rfl rfl ?_
  intro g1
  refine Qe rfl rfl (WpL.nil (Qh ?_))
  apply RetQ.mk
  ·exact (Res.one rfl rfl)
  ·have e : Qp p = [p % 281474976710656 / 4294967296, p % 281474976710656 / 65536 % 65536, p % 281474976710656 % 65536] := by rw [Qp, if_pos (by omega), show p / 4294967296 % 65536 = p % 281474976710656 / 4294967296 by omega, show p / 65536 % 65536 = p % 281474976710656 / 65536 % 65536 by omega, show p % 65536 = p % 281474976710656 % 65536 by omega]
   rw [e]
   exact SlI.blk (T := 3) (o := 0) (cs := [.int .i64 (p % 281474976710656 / 4294967296), .int .i64 (p % 281474976710656 / 65536 % 65536), .int .i64 (p % 281474976710656 % 65536)]) rfl rfl (by decide)
  ·exact Ent.refl _
 ·refine Wp.skip (Qb (Qb (Qa (Qd rfl rfl (QO rfl rfl rfl (Qd rfl rfl (QH rfl rfl rfl (fun hg1 => ?_) (fun hg1 => ?_))))))))
  ·have hg1 := of_decide_eq_true hg1
   refine Qd rfl rfl (Qf rfl rfl (Q6 rfl rfl rfl (Qx rfl rfl rfl (WpL.nil (Qm rfl (fun h1 => ?_) (fun h1 => ?_))))))
   ·refine Qb (Qa (Qd rfl rfl ?_))
    refine Y4 rfl rfl rfl rfl ?_
    intro g2
    refine Qe rfl rfl (WpL.nil (Qh ?_))
    apply RetQ.mk
    ·exact (Res.one rfl rfl)
    ·have e : Qp p = [p % 281474976710656] := by rw [Qp, if_neg (by omega), if_pos (by omega), show p % 65536 = p % 281474976710656 by omega]
     rw [e]
     exact SlI.blk (T := 3) (o := 0) (cs := [.int .i64 (p % 281474976710656)]) rfl rfl (by decide)
    ·exact Ent.refl _
   ·refine Wp.skip (Qb (Qa (Qe rfl rfl (WpL.nil (Qh ?_)))))
    apply RetQ.mk
    ·exact (Res.one rfl rfl)
    ·exact SlI.nil (by rw [Qp, if_neg (by omega), if_neg (by omega)])
    ·exact Yp (Ent.nil _)
  ·have hg1 := of_decide_eq_false hg1
   refine Qc rfl rfl rfl (by decide) (Qq rfl rfl rfl (WpL.nil (QV rfl (Wp.skip (Qb (Qa (Qe rfl rfl (WpL.nil (Qh ?_)))))))))
   apply RetQ.mk
   ·exact (Res.one rfl rfl)
   ·exact SlI.nil (by rw [Qp, if_neg (by omega), if_neg (by omega)])
   ·exact Yp (Ent.nil _)

def Yc (ch mx : Int) : Prop := (ch = 1 ∨ ch = 3) ∧ 1 ≤ mx ∧ mx ≤ 65535
instance (ch mx : Int) : Decidable (Yc ch mx) := by unfold Yc; infer_instance

theorem YS (ch mx : Int) : Fn Tryz.prog 84 #[.agg #[.int .i64 ch, .int .i64 mx]] [] (fun v l => v = .bool (decide (Yc ch mx)) ∧ l = []) := by
 refine Qk (vs := [.agg #[.int .i64 ch, .int .i64 mx]]) Tryz.func84 rfl Tryz.ntmps84 rfl (Qb (Qa (QP rfl rfl rfl ?_)))
 intro g1
 refine Qe rfl rfl (WpL.nil (Qb (Qa (Qj (o2 := 0) rfl rfl rfl (Qo rfl rfl (by rfl) ?_)))))
 refine QO rfl rfl rfl (Qd rfl rfl (QH rfl rfl rfl (fun hg1 => ?_) (fun hg1 => ?_)))
 ·have hg1 := of_decide_eq_false hg1
  refine Qj (o2 := 0) rfl rfl rfl (Qf rfl rfl (Qo rfl rfl (by rfl) ?_))
  refine Qf rfl rfl (QO rfl rfl rfl (Qq rfl rfl rfl (Qd rfl rfl (QH rfl rfl rfl (fun hg2 => ?_) (fun hg2 => ?_)))))
  ·have hg2 := of_decide_eq_true hg2
   refine Qj (o2 := 1) rfl rfl rfl (Qf rfl rfl (Qo rfl rfl (by rfl) ?_))
   refine Qf rfl rfl (Zo rfl rfl rfl (Qx rfl rfl rfl (Qd rfl rfl (QH rfl rfl rfl (fun hg3 => ?_) (fun hg3 => ?_)))))
   ·have hg3 := of_decide_eq_true hg3
    refine Qj (o2 := 1) rfl rfl rfl (Qf rfl rfl (Qo rfl rfl (by rfl) ?_))
    refine Qf rfl rfl (s_le rfl rfl rfl (Qx rfl rfl rfl (Qe rfl rfl (WpL.nil (Qh ?_)))))
    apply RetQ.mk
    ·exact (Res.one rfl rfl)
    ·exact ⟨congrArg Value.bool (by exact dd (by unfold Yc; omega)), rfl⟩
    ·exact Ent.nil _
   ·have hg3 := of_decide_eq_false hg3
    refine Qc rfl rfl rfl (by decide) (Qc rfl rfl rfl (by decide) (Qq rfl rfl rfl (Qe rfl rfl (WpL.nil (Qh ?_)))))
    apply RetQ.mk
    ·exact (Res.one rfl rfl)
    ·exact ⟨congrArg Value.bool (by exact df (by unfold Yc; omega)), rfl⟩
    ·exact Ent.nil _
  ·have hg2 := of_decide_eq_false hg2
   refine Qc rfl rfl rfl (by decide) (Qc rfl rfl rfl (by decide) (Qq rfl rfl rfl (Qd rfl rfl (Qc rfl rfl rfl (by decide) (Qc rfl rfl rfl (by decide) (Qc rfl rfl rfl (by decide) (Qq rfl rfl rfl (Qe rfl rfl (WpL.nil (Qh ?_))))))))))
   apply RetQ.mk
   ·exact (Res.one rfl rfl)
   ·exact ⟨congrArg Value.bool (by exact df (by unfold Yc; omega)), rfl⟩
   ·exact Ent.nil _
 ·have hg1 := of_decide_eq_true hg1
  refine Qc rfl rfl rfl (by decide) (Qc rfl rfl rfl (by decide) (Qx rfl rfl rfl (Qd rfl rfl (Qf rfl rfl (Qj (o2 := 1) rfl rfl rfl (Qf rfl rfl (Qo rfl rfl (by rfl) ?_)))))))
  refine Qf rfl rfl (Zo rfl rfl rfl (Qx rfl rfl rfl (Qd rfl rfl (QH rfl rfl rfl (fun hg4 => ?_) (fun hg4 => ?_)))))
  ·have hg4 := of_decide_eq_true hg4
   refine Qj (o2 := 1) rfl rfl rfl (Qf rfl rfl (Qo rfl rfl (by rfl) ?_))
   refine Qf rfl rfl (s_le rfl rfl rfl (Qx rfl rfl rfl (Qe rfl rfl (WpL.nil (Qh ?_)))))
   apply RetQ.mk
   ·exact (Res.one rfl rfl)
   ·exact ⟨congrArg Value.bool (by exact dd (by unfold Yc; omega)), rfl⟩
   ·exact Ent.nil _
  ·have hg4 := of_decide_eq_false hg4
   refine Qc rfl rfl rfl (by decide) (Qc rfl rfl rfl (by decide) (Qq rfl rfl rfl (Qe rfl rfl (WpL.nil (Qh ?_)))))
   apply RetQ.mk
   ·exact (Res.one rfl rfl)
   ·exact ⟨congrArg Value.bool (by exact df (by unfold Yc; omega)), rfl⟩
   ·exact Ent.nil _

theorem rFormat1_spec (ch mx : Int) : Fn Tryz.prog 73 #[.agg #[.int .i64 ch, .int .i64 mx]] [] (fun v l => v = .bool (decide (Yc ch mx)) ∧ l = []) := by
 refine Qk (vs := [.agg #[.int .i64 ch, .int .i64 mx]]) Tryz.func73 rfl Tryz.ntmps73 rfl (Qb (Qa (QP rfl rfl rfl ?_)))
 intro g1
 refine Qe rfl rfl (WpL.nil (Qb (Qa (Qj (o2 := 0) rfl rfl rfl (Qo rfl rfl (by rfl) ?_)))))
 refine QO rfl rfl rfl (Qd rfl rfl (QH rfl rfl rfl (fun hg1 => ?_) (fun hg1 => ?_)))
 ·have hg1 := of_decide_eq_false hg1
  refine Qj (o2 := 0) rfl rfl rfl (Qf rfl rfl (Qo rfl rfl (by rfl) ?_))
  refine Qf rfl rfl (QO rfl rfl rfl (Qq rfl rfl rfl (Qd rfl rfl (QH rfl rfl rfl (fun hg2 => ?_) (fun hg2 => ?_)))))
  ·have hg2 := of_decide_eq_true hg2
   refine Qj (o2 := 1) rfl rfl rfl (Qf rfl rfl (Qo rfl rfl (by rfl) ?_))
   refine Qf rfl rfl (s_gt rfl rfl rfl (Qx rfl rfl rfl (Qd rfl rfl (QH rfl rfl rfl (fun hg3 => ?_) (fun hg3 => ?_)))))
   ·have hg3 := of_decide_eq_true hg3
    refine Qj (o2 := 1) rfl rfl rfl (Qf rfl rfl (Qo rfl rfl (by rfl) ?_))
    refine Qf rfl rfl (Q6 rfl rfl rfl (Qx rfl rfl rfl (Qe rfl rfl (WpL.nil (Qh ?_)))))
    apply RetQ.mk
    ·exact (Res.one rfl rfl)
    ·exact ⟨congrArg Value.bool (by exact dd (by unfold Yc; omega)), rfl⟩
    ·exact Ent.nil _
   ·have hg3 := of_decide_eq_false hg3
    refine Qc rfl rfl rfl (by decide) (Qc rfl rfl rfl (by decide) (Qq rfl rfl rfl (Qe rfl rfl (WpL.nil (Qh ?_)))))
    apply RetQ.mk
    ·exact (Res.one rfl rfl)
    ·exact ⟨congrArg Value.bool (by exact df (by unfold Yc; omega)), rfl⟩
    ·exact Ent.nil _
  ·have hg2 := of_decide_eq_false hg2
   refine Qc rfl rfl rfl (by decide) (Qc rfl rfl rfl (by decide) (Qq rfl rfl rfl (Qd rfl rfl (Qc rfl rfl rfl (by decide) (Qc rfl rfl rfl (by decide) (Qc rfl rfl rfl (by decide) (Qq rfl rfl rfl (Qe rfl rfl (WpL.nil (Qh ?_))))))))))
   apply RetQ.mk
   ·exact (Res.one rfl rfl)
   ·exact ⟨congrArg Value.bool (by exact df (by unfold Yc; omega)), rfl⟩
   ·exact Ent.nil _
 ·have hg1 := of_decide_eq_true hg1
  refine Qc rfl rfl rfl (by decide) (Qc rfl rfl rfl (by decide) (Qx rfl rfl rfl (Qd rfl rfl (Qf rfl rfl (Qj (o2 := 1) rfl rfl rfl (Qf rfl rfl (Qo rfl rfl (by rfl) ?_)))))))
  refine Qf rfl rfl (s_gt rfl rfl rfl (Qx rfl rfl rfl (Qd rfl rfl (QH rfl rfl rfl (fun hg4 => ?_) (fun hg4 => ?_)))))
  ·have hg4 := of_decide_eq_true hg4
   refine Qj (o2 := 1) rfl rfl rfl (Qf rfl rfl (Qo rfl rfl (by rfl) ?_))
   refine Qf rfl rfl (Q6 rfl rfl rfl (Qx rfl rfl rfl (Qe rfl rfl (WpL.nil (Qh ?_)))))
   apply RetQ.mk
   ·exact (Res.one rfl rfl)
   ·exact ⟨congrArg Value.bool (by exact dd (by unfold Yc; omega)), rfl⟩
   ·exact Ent.nil _
  ·have hg4 := of_decide_eq_false hg4
   refine Qc rfl rfl rfl (by decide) (Qc rfl rfl rfl (by decide) (Qq rfl rfl rfl (Qe rfl rfl (WpL.nil (Qh ?_)))))
   apply RetQ.mk
   ·exact (Res.one rfl rfl)
   ·exact ⟨congrArg Value.bool (by exact df (by unfold Yc; omega)), rfl⟩
   ·exact Ent.nil _

theorem rin_spec (x : Int) : Fn Tryz.prog 154 #[.int .i64 x] [] (fun v l => v = .bool (decide (smp x)) ∧ l = []) := by
 refine Qk (vs := [.int .i64 x]) Tryz.func154 rfl Tryz.ntmps154 rfl (Qb (Qa (Qe rfl rfl (WpL.nil (Qb (Qa (Qd rfl rfl (Zo rfl rfl rfl (Qd rfl rfl (QH rfl rfl rfl (fun hg1 => ?_) (fun hg1 => ?_)))))))))))
 ·have hg1 := of_decide_eq_true hg1
  refine Qd rfl rfl (Qf rfl rfl (s_le rfl rfl rfl (Qx rfl rfl rfl (Qe rfl rfl (WpL.nil (Qh ?_))))))
  apply RetQ.mk
  ·exact (Res.one rfl rfl)
  ·exact ⟨congrArg Value.bool (by exact dd (by unfold smp; omega)), rfl⟩
  ·exact Ent.refl _
 ·have hg1 := of_decide_eq_false hg1
  refine Qc rfl rfl rfl (by decide) (Qq rfl rfl rfl (Qe rfl rfl (WpL.nil (Qh ?_))))
  apply RetQ.mk
  ·exact (Res.one rfl rfl)
  ·exact ⟨congrArg Value.bool (by exact df (by unfold smp; omega)), rfl⟩
  ·exact Ent.refl _

theorem rPack_spec (As : List HP) (a : Option Addr) (c : Nat) (xs : List Int) (hA : RdsL As a (QU xs)) (hm : xs.length ≤ 281474976710656) : Fn Tryz.prog 100 #[.slice a xs.length c] As (fun v l => v = .tuple #[.int .u64 (Xy xs).1, .int .i64 (Xy xs).2] ∧ l = As) := by
 refine Qk (vs := [.slice a xs.length c]) Tryz.func100 rfl Tryz.ntmps100 rfl (Qb (Qa (Qe rfl rfl (Qe rfl rfl (WpL.nil ?_)))))
 refine Wp.cut (xs.length = 1 ∨ xs.length = 3) [2, 3, 6, 7, 8, 9, 10, 11, 12, 13] ?_ (fun hc0 => ?_)
 ·refine Qb (Qa (Qd rfl rfl (QK rfl rfl (Xj rfl rfl rfl (Qd rfl rfl (QH rfl rfl rfl (fun hg1 => ?_) (fun hg1 => ?_)))))))
  ·have hg1 := of_decide_eq_true hg1
   refine Qd rfl rfl (Qf rfl rfl (QK rfl rfl (Qf rfl rfl (Xj rfl rfl rfl (Qx rfl rfl rfl (WpL.nil (Qm rfl (fun h0 => ?_) (fun h0 => ?_))))))))
   ·refine Qb (Qa (Qe rfl rfl (Qe rfl rfl (WpL.nil (Qh ?_)))))
    apply RetQ.mk
    ·exact (QF rfl rfl rfl)
    ·exact ⟨by rw [Xy, if_pos (by omega)], rfl⟩
    ·exact Ent.refl _
   ·refine Wp.skip ?_
    refine Zd ?_ (by ((repeat (first | exact Top.refl | refine Top.push rfl ?_)); done)) (by exact Ent.refl _)
    omega
  ·have hg1 := of_decide_eq_false hg1
   refine Qc rfl rfl rfl (by decide) (Qc rfl rfl rfl (by decide) (Qq rfl rfl rfl (WpL.nil (QV rfl (Wp.skip ?_)))))
   refine Zd ?_ (by ((repeat (first | exact Top.refl | refine Top.push rfl ?_)); done)) (by exact Ent.refl _)
   omega
 ·refine Qb (Qa (Qe rfl rfl (WpL.nil (Qb (Qb (Qa (Qe rfl rfl (WpL.nil (Wp.block ?_)))))))))
  refine Wp.loopD (σ := Nat) (fun k => k ≤ xs.length ∧ ∀ n ∈ xs.take k, smp n) [2, 3, 4, 5, 14, 15, 16, 17, 18, 19, 20, 21, 22, 23, 24, 25, 26, 27, 28, 29, 30, 31, 32] (fun k => [(5, .int .i64 (k : Int)), (4, .int .i64 (XT (xs.take k) 0))]) (fun _ => _) (fun k => xs.length - k) 0 ?_ (FrLe.cons rfl (FrLe.cons rfl FrLe.nil)) (Ent.refl _) ?_
  ·exact ⟨Nat.zero_le _, by simp⟩
  ·rintro k ⟨hk, hsm⟩
   refine Qb (Qb (Qa (Qd rfl rfl (Qd rfl rfl (QK rfl rfl (Q6 rfl rfl rfl (WpL.nil (Qm rfl (fun h2 => ?_) (fun h2 => ?_)))))))))
   ·have hlt : k < xs.length := by omega
    refine Wp.skip (Qb (Wp.block ?_))
    refine Wp.cut (smp xs[k]) [2, 3, 20, 21, 22, 23, 24, 25] ?_ (fun hc3 => ?_)
    ·refine Qb (Qa (Qd rfl rfl (Qd rfl rfl (Q3 k rfl rfl rfl hA (by (repeat (exact Ent.refl _))) rfl (by omega) (by simp only [lens]; omega) ?_))))
     refine Xb rfl rfl hA (by (repeat (exact Ent.refl _))) (XX xs hlt) ?_
     refine Qg rfl rfl (by repeat' constructor) (rin_spec _) ?_
     rintro _ _ ⟨rfl, rfl⟩
     simp only [Qr]
     refine XY rfl rfl (WpL.nil (Qm rfl (fun h3 => ?_) (fun h3 => ?_)))
     ·refine Qb (Qa (Qe rfl rfl (Qe rfl rfl (WpL.nil (Qh ?_)))))
      apply RetQ.mk
      ·exact (QF rfl rfl rfl)
      ·exact ⟨by rw [packS_bad xs (by omega) hlt h3], rfl⟩
      ·exact Ent.refl _
     ·refine Wp.skip ?_
      refine Zd ?_ (by ((repeat (first | exact Top.refl | refine Top.push rfl ?_)); done)) (by exact Ent.refl _)
      exact Decidable.not_not.1 h3
    ·have hp := packF_step hlt (by omega) hsm
     have hgood := hc3
     unfold smp at hc3
     have hstep : XT (xs.take k) 0 * 65536 + xs[k] = XT (xs.take (k + 1)) 0 := by rw [Xd xs hlt, packF_snoc]
     refine Qa (Qd rfl rfl (Xz rfl rfl rfl (Qt (by omega) (by omega)) ?_))
     refine Qd rfl rfl (Qd rfl rfl (Q3 k rfl rfl rfl hA (by (repeat (exact Ent.refl _))) rfl (by omega) (by simp only [lens]; omega) ?_))
     refine Xb rfl rfl hA (by (repeat (exact Ent.refl _))) (XX xs hlt) ?_
     refine QE rfl rfl rfl (Qt (by omega) (by omega)) ?_
     refine Qe rfl rfl (WpL.nil (Qa (Qd rfl rfl (QE rfl rfl rfl (Qt (by omega) (by omega)) ?_))))
     refine Qe rfl rfl (WpL.nil (Qy (k + 1) ?_ ?_ (by ((repeat (first | exact Top.refl | refine Top.push rfl ?_)); done)) (FrLe.cons rfl (FrLe.cons (by exact congrArg (fun x => some (Value.int .i64 x)) hstep) FrLe.nil)) ?_))
     ·refine ⟨by omega, ?_⟩
      rw [Xd xs hlt]
      intro n hn
      rcases List.mem_append.1 hn with hn | hn
      ·exact hsm n hn
      ·have := List.mem_singleton.1 hn; subst this; exact hgood
     ·omega
     ·exact Ent.refl _
   ·have hke : k = xs.length := by omega
    have hsm' : ∀ n ∈ xs, smp n := by rw [hke, List.take_length] at hsm; exact hsm
    have hpa := packF_all (by omega) hsm'
    have hpt : XT (xs.take k) 0 = XT xs 0 := by rw [hke, List.take_length]
    refine QL (Qb (Qa (Qd rfl rfl (Qd rfl rfl (QK rfl rfl (Xz rfl rfl rfl (Qt (by omega) (by omega)) ?_))))))
    rw [hpt]
    refine QE rfl rfl rfl (Qt (by omega) (by omega)) ?_
    refine Ya rfl Tryz.underlying3 rfl (Zi (by omega) (by omega)) ?_
    refine Qe rfl rfl (Qe rfl rfl (WpL.nil (Qh ?_)))
    apply RetQ.mk
    ·exact (QF rfl rfl rfl)
    ·exact ⟨by rw [packS_ok xs (by omega) hsm'], rfl⟩
    ·exact Ent.refl _


def maxL : List Int → Int
  | [] => 0
  | x :: xs => xs.foldl max x
theorem maxL_take (xs : List Int) {k : Nat} (h0 : 0 < k) (hk : k < xs.length) : max (maxL (xs.take k)) xs[k] = maxL (xs.take (k + 1)) := by
  rw [Xd xs hk]
  cases xs with
  | nil => simp at hk
  | cons x xs =>
    cases k with
    | zero => omega
    | succ k => simp only [List.length_cons, Nat.add_lt_add_iff_right] at hk; simp only [maxL, List.take_succ_cons, List.cons_append, List.foldl_append, List.foldl_cons, List.foldl_nil, List.getElem_cons_succ]
theorem maxL_le (xs : List Int) (m : Int) (h : xs ≠ []) : maxL xs ≤ m ↔ ∀ n ∈ xs, n ≤ m := by
  cases xs with
  | nil => exact absurd rfl h
  | cons x xs =>
    have key : ∀ (xs : List Int) (x : Int), xs.foldl max x ≤ m ↔ x ≤ m ∧ ∀ n ∈ xs, n ≤ m := by
      intro xs
      induction xs with
      | nil => intro x; simp
      | cons y ys ih => intro x; simp only [List.foldl_cons, ih, List.mem_cons, forall_eq_or_imp]; exact ⟨fun ⟨h1, h2⟩ => ⟨by omega, by omega, h2⟩, fun ⟨h1, h2, h3⟩ => ⟨by omega, h3⟩⟩
    simp [maxL, key]

theorem Max_spec (As : List HP) (a : Option Addr) (c : Nat) (xs : List Int) (hA : RdsL As a (QU xs)) (hm : xs.length ≤ 281474976710656) (hne : 0 < xs.length) : Fn Tryz.prog 174 #[.slice a xs.length c] As (fun v l => v = .int .i64 (maxL xs) ∧ l = As) := by
 have hfirst : xs[0]'hne = maxL (xs.take 1) := by cases xs with | nil => simp at hne | cons x xs => rfl
 refine Qk (vs := [.slice a xs.length c]) Tryz.func174 rfl Tryz.ntmps174 rfl (Qb (Qa (Qe rfl rfl (WpL.nil (Qb (Qb (Qa (Qd rfl rfl (QK rfl rfl (Q6 rfl rfl rfl (WpL.nil (QA rfl (by omega) ?_))))))))))))
 refine Wp.skip (Qb (Qa (Qd rfl rfl (Q3 0 rfl rfl rfl hA (by (repeat (exact Ent.refl _))) rfl (by omega) (by simp only [QX]; omega) ?_))))
 refine Xb rfl rfl hA (by (repeat (exact Ent.refl _))) (XX xs hne) ?_
 refine Qe rfl rfl (WpL.nil (Qb (Qb (Qa (Qe rfl rfl (WpL.nil (Wp.block ?_)))))))
 refine Wp.loopD (σ := Nat) (fun k => 0 < k ∧ k ≤ xs.length) [3, 4, 12, 13, 14, 15, 16, 17, 18, 19, 20, 21, 22, 23] (fun k => [(4, .int .i64 (k : Int)), (3, .int .i64 (maxL (xs.take k)))]) (fun _ => _) (fun k => xs.length - k) 1 ?_ (FrLe.cons rfl (FrLe.cons (by exact congrArg (fun x => some (Value.int .i64 x)) hfirst) FrLe.nil)) (Ent.refl _) ?_
 ·omega
 ·rintro k ⟨hk0, hk⟩
  refine Qb (Qb (Qa (Qd rfl rfl (Qd rfl rfl (QK rfl rfl (Q6 rfl rfl rfl (WpL.nil (Qm rfl (fun h2 => ?_) (fun h2 => ?_)))))))))
  ·have hlt : k < xs.length := by omega
   refine Wp.skip (Qb (Wp.block ?_))
   refine Qa (Qd rfl rfl (Qd rfl rfl (Qd rfl rfl (Q3 k rfl rfl rfl hA (by (repeat (exact Ent.refl _))) rfl (by omega) (by simp only [lens]; omega) ?_))))
   refine Xb rfl rfl hA (by (repeat (exact Ent.refl _))) (XX xs hlt) ?_
   refine s_max2 rfl rfl rfl (Qe rfl rfl (WpL.nil (Qa (Qd rfl rfl (QE rfl rfl rfl (Qt (by omega) (by omega)) ?_)))))
   refine Qe rfl rfl (WpL.nil (Qy (k + 1) ?_ ?_ (by ((repeat (first | exact Top.refl | refine Top.push rfl ?_)); done)) (FrLe.cons rfl (FrLe.cons (by exact congrArg (fun x => some (Value.int .i64 x)) (maxL_take xs hk0 hlt)) FrLe.nil)) ?_))
   ·omega
   ·omega
   ·exact Ent.refl _
  ·have hke : k = xs.length := by omega
   refine QL (Qb (Qa (Qd rfl rfl (Qe rfl rfl (WpL.nil (Qh ?_))))))
   apply RetQ.mk
   ·exact (Res.one rfl rfl)
   ·exact ⟨by rw [hke, List.take_length], rfl⟩
   ·exact Ent.refl _

def X1 (p ch mx : Int) : Prop := Yc ch mx ∧ ((Qp p).length : Int) = ch ∧ ∀ n ∈ Qp p, n ≤ mx
instance (p ch mx : Int) : Decidable (X1 p ch mx) := by unfold X1; infer_instance
theorem Xs (p : Int) : (Qp p).length ≤ 3 := by unfold Qp; split <;> (try split) <;> simp

theorem Fits_a (p ch mx : Int) (h0 : 0 ≤ p) (h1 : p < 18446744073709551616) (h1' : ¬ Yc ch mx) : Fn Tryz.prog 132 #[.int .u64 p, .agg #[.int .i64 ch, .int .i64 mx]] [] (fun v l => v = .bool (decide (X1 p ch mx)) ∧ l = []) := by
 refine Qk (vs := [.int .u64 p, .agg #[.int .i64 ch, .int .i64 mx]]) Tryz.func132 rfl Tryz.ntmps132 rfl (Qb (Qa (QP rfl rfl rfl ?_)))
 intro g1
 refine Qe rfl rfl (WpL.nil (Qb (Qa (Qd rfl rfl (Qg rfl rfl (by repeat' constructor) (XI _ (by omega) (by omega)) ?_)))))
 rintro _ _ ⟨A1, a1, c1, rfl, rfl, hA1, hn1⟩
 simp only [Qr]
 refine Qe rfl rfl (WpL.nil (Qb ?_))
 apply QS mixed [⟨8, _, []⟩, ⟨9, _, [0]⟩, ⟨10, _, [1]⟩, ⟨11, _, [2]⟩, ⟨12, _, [3, 2]⟩, ⟨13, _, [2]⟩, ⟨14, _, [5, 2]⟩, ⟨15, _, [4, 6, 2]⟩, ⟨16, _, [2, 7]⟩, ⟨17, _, [8, 2]⟩, ⟨18, _, [9]⟩, ⟨19, _, [10, 9]⟩, ⟨20, _, [9]⟩, ⟨21, _, [12, 9]⟩, ⟨22, _, [11, 13, 9]⟩, ⟨23, _, [9, 14]⟩, ⟨4, _, [15, 11, 0, 1, 2, 3, 4, 5, 6, 7, 8, 9, 10, 12, 13, 14]⟩] rfl
 ·refine AllObs.mk ?_ ?_
  ·refine Qz (vs := [_, _]) rfl rfl rfl (by rfl) ?_
   exact Ql rfl
  refine AllObs.mk ?_ ?_
  ·refine Qg rfl rfl (by repeat' constructor) (YS _ _) ?_
   rintro _ _ ⟨rfl, rfl⟩
   simp only [Qr]
   exact WpL.nil ⟨rfl, rfl, rfl, by exact Ent.refl _⟩
  refine AllObs.mk ?_ ?_
  ·exact Qd rfl rfl (Ql rfl)
  refine AllObs.mk ?_ ?_
  ·refine Qu (dj := 10) rfl (decide_eq_false h1') ?_
   exact Qc rfl rfl rfl (by decide) (Ql rfl)
  refine AllObs.mk ?_ ?_
  ·refine Qu (dj := 10) rfl (decide_eq_false h1') ?_
   exact Qc rfl rfl rfl (by decide) (WpL.nil ⟨rfl, rfl, rfl, by exact Ent.refl _⟩)
  refine AllObs.mk ?_ ?_
  ·refine Qu (dj := 10) rfl (decide_eq_false h1') ?_
   exact Qc rfl rfl rfl (by decide) (Ql rfl)
  refine AllObs.mk ?_ ?_
  ·refine Qu (dj := 10) rfl (decide_eq_false h1') ?_
   exact Qc rfl rfl rfl (by decide) (Ql rfl)
  refine AllObs.mk ?_ ?_
  ·refine Qu (dj := 10) rfl (decide_eq_false h1') ?_
   exact Qc rfl rfl rfl (by decide) (Ql rfl)
  refine AllObs.mk ?_ ?_
  ·refine Qu (dj := 10) rfl (decide_eq_false h1') ?_
   exact Qq rfl rfl rfl (Ql rfl)
  refine AllObs.mk ?_ ?_
  ·exact Qd rfl rfl (Ql rfl)
  refine AllObs.mk ?_ ?_
  ·exact Qc rfl rfl rfl (by decide) (Ql rfl)
  refine AllObs.mk ?_ ?_
  ·exact Qc rfl rfl rfl (by decide) (WpL.nil ⟨rfl, rfl, rfl, by exact Ent.refl _⟩)
  refine AllObs.mk ?_ ?_
  ·exact Qc rfl rfl rfl (by decide) (Ql rfl)
  refine AllObs.mk ?_ ?_
  ·exact Qc rfl rfl rfl (by decide) (Ql rfl)
  refine AllObs.mk ?_ ?_
  ·exact Qc rfl rfl rfl (by decide) (Ql rfl)
  refine AllObs.mk ?_ ?_
  ·exact Qq rfl rfl rfl (Ql rfl)
  refine AllObs.mk ?_ ?_
  ·exact Qe rfl rfl (Ql rfl)
  exact AllObs.nil
 ·refine Qh ?_
  apply RetQ.mk
  ·exact (Res.one rfl rfl)
  ·exact ⟨congrArg Value.bool (by exact df (by unfold X1; simp [*])), rfl⟩
  ·exact Ent.nil _

theorem Fits_b (p ch mx : Int) (h0 : 0 ≤ p) (h1 : p < 18446744073709551616) (h1' : Yc ch mx) (h2 : ¬ ((Qp p).length : Int) = ch) : Fn Tryz.prog 132 #[.int .u64 p, .agg #[.int .i64 ch, .int .i64 mx]] [] (fun v l => v = .bool (decide (X1 p ch mx)) ∧ l = []) := by
 refine Qk (vs := [.int .u64 p, .agg #[.int .i64 ch, .int .i64 mx]]) Tryz.func132 rfl Tryz.ntmps132 rfl (Qb (Qa (QP rfl rfl rfl ?_)))
 intro g1
 refine Qe rfl rfl (WpL.nil (Qb (Qa (Qd rfl rfl (Qg rfl rfl (by repeat' constructor) (XI _ (by omega) (by omega)) ?_)))))
 rintro _ _ ⟨A1, a1, c1, rfl, rfl, hA1, hn1⟩
 simp only [Qr]
 refine Qe rfl rfl (WpL.nil (Qb ?_))
 apply QS mixed [⟨8, _, []⟩, ⟨9, _, [0]⟩, ⟨10, _, [1]⟩, ⟨11, _, [2]⟩, ⟨12, _, [3, 2]⟩, ⟨13, _, [2]⟩, ⟨14, _, [5, 2]⟩, ⟨15, _, [4, 6, 2]⟩, ⟨16, _, [2, 7]⟩, ⟨17, _, [8, 2]⟩, ⟨18, _, [9]⟩, ⟨19, _, [10, 9]⟩, ⟨20, _, [9]⟩, ⟨21, _, [12, 9]⟩, ⟨22, _, [11, 13, 9]⟩, ⟨23, _, [9, 14]⟩, ⟨4, _, [15, 11, 0, 1, 2, 3, 4, 5, 6, 7, 8, 9, 10, 12, 13, 14]⟩] rfl
 ·refine AllObs.mk ?_ ?_
  ·refine Qz (vs := [_, _]) rfl rfl rfl (by rfl) ?_
   exact Ql rfl
  refine AllObs.mk ?_ ?_
  ·refine Qg rfl rfl (by repeat' constructor) (YS _ _) ?_
   rintro _ _ ⟨rfl, rfl⟩
   simp only [Qr]
   exact WpL.nil ⟨rfl, rfl, rfl, by exact Ent.refl _⟩
  refine AllObs.mk ?_ ?_
  ·exact Qd rfl rfl (Ql rfl)
  refine AllObs.mk ?_ ?_
  ·refine Qv (dj := 10) rfl (decide_eq_true h1') ?_
   exact Qf rfl rfl (Qd rfl rfl (Ql rfl))
  refine AllObs.mk ?_ ?_
  ·refine Qv (dj := 10) rfl (decide_eq_true h1') ?_
   exact Qf rfl rfl (QK rfl rfl (WpL.nil ⟨rfl, rfl, rfl, by exact Ent.refl _⟩))
  refine AllObs.mk ?_ ?_
  ·refine Qv (dj := 10) rfl (decide_eq_true h1') ?_
   exact Qf rfl rfl (Qj (o2 := 0) rfl rfl rfl (Ql rfl))
  refine AllObs.mk ?_ ?_
  ·refine Qv (dj := 10) rfl (decide_eq_true h1') ?_
   refine Qf rfl rfl (Qo rfl rfl (by rfl) ?_)
   exact Ql rfl
  refine AllObs.mk ?_ ?_
  ·refine Qv (dj := 10) rfl (decide_eq_true h1') ?_
   exact Qf rfl rfl (QO rfl rfl rfl (Ql rfl))
  refine AllObs.mk ?_ ?_
  ·refine Qv (dj := 10) rfl (decide_eq_true h1') ?_
   exact Qx rfl rfl rfl (Ql rfl)
  refine AllObs.mk ?_ ?_
  ·exact Qd rfl rfl (Ql rfl)
  refine AllObs.mk ?_ ?_
  ·refine Qu (dj := 17) rfl (decide_eq_false h2) ?_
   exact Qc rfl rfl rfl (by decide) (Ql rfl)
  refine AllObs.mk ?_ ?_
  ·refine Qu (dj := 17) rfl (decide_eq_false h2) ?_
   exact Qc rfl rfl rfl (by decide) (WpL.nil ⟨rfl, rfl, rfl, by exact Ent.refl _⟩)
  refine AllObs.mk ?_ ?_
  ·refine Qu (dj := 17) rfl (decide_eq_false h2) ?_
   exact Qc rfl rfl rfl (by decide) (Ql rfl)
  refine AllObs.mk ?_ ?_
  ·refine Qu (dj := 17) rfl (decide_eq_false h2) ?_
   exact Qc rfl rfl rfl (by decide) (Ql rfl)
  refine AllObs.mk ?_ ?_
  ·refine Qu (dj := 17) rfl (decide_eq_false h2) ?_
   exact Qc rfl rfl rfl (by decide) (Ql rfl)
  refine AllObs.mk ?_ ?_
  ·refine Qu (dj := 17) rfl (decide_eq_false h2) ?_
   exact Qq rfl rfl rfl (Ql rfl)
  refine AllObs.mk ?_ ?_
  ·exact Qe rfl rfl (Ql rfl)
  exact AllObs.nil
 ·refine Qh ?_
  apply RetQ.mk
  ·exact (Res.one rfl rfl)
  ·exact ⟨congrArg Value.bool (by exact df (by unfold X1; simp [*])), rfl⟩
  ·exact Ent.nil _

theorem Fits_c (p ch mx : Int) (h0 : 0 ≤ p) (h1 : p < 18446744073709551616) (h1' : Yc ch mx) (h2 : ((Qp p).length : Int) = ch) : Fn Tryz.prog 132 #[.int .u64 p, .agg #[.int .i64 ch, .int .i64 mx]] [] (fun v l => v = .bool (decide (X1 p ch mx)) ∧ l = []) := by
 refine Qk (vs := [.int .u64 p, .agg #[.int .i64 ch, .int .i64 mx]]) Tryz.func132 rfl Tryz.ntmps132 rfl (Qb (Qa (QP rfl rfl rfl ?_)))
 intro g1
 refine Qe rfl rfl (WpL.nil (Qb (Qa (Qd rfl rfl (Qg rfl rfl (by repeat' constructor) (XI _ (by omega) (by omega)) ?_)))))
 rintro _ _ ⟨A1, a1, c1, rfl, rfl, hA1, hn1⟩
 simp only [Qr]
 refine Qe rfl rfl (WpL.nil (Qb ?_))
 apply QS mixed [⟨8, _, []⟩, ⟨9, _, [0]⟩, ⟨10, _, [1]⟩, ⟨11, _, [2]⟩, ⟨12, _, [3, 2]⟩, ⟨13, _, [2]⟩, ⟨14, _, [5, 2]⟩, ⟨15, _, [4, 6, 2]⟩, ⟨16, _, [2, 7]⟩, ⟨17, _, [8, 2]⟩, ⟨18, _, [9]⟩, ⟨19, _, [10, 9]⟩, ⟨20, _, [9]⟩, ⟨21, _, [12, 9]⟩, ⟨22, _, [11, 13, 9]⟩, ⟨23, _, [9, 14]⟩, ⟨4, _, [15, 11, 0, 1, 2, 3, 4, 5, 6, 7, 8, 9, 10, 12, 13, 14]⟩] rfl
 ·refine AllObs.mk ?_ ?_
  ·refine Qz (vs := [_, _]) rfl rfl rfl (by rfl) ?_
   exact Ql rfl
  refine AllObs.mk ?_ ?_
  ·refine Qg rfl rfl (by repeat' constructor) (YS _ _) ?_
   rintro _ _ ⟨rfl, rfl⟩
   simp only [Qr]
   exact WpL.nil ⟨rfl, rfl, rfl, by exact Ent.refl _⟩
  refine AllObs.mk ?_ ?_
  ·exact Qd rfl rfl (Ql rfl)
  refine AllObs.mk ?_ ?_
  ·refine Qv (dj := 10) rfl (decide_eq_true h1') ?_
   exact Qf rfl rfl (Qd rfl rfl (Ql rfl))
  refine AllObs.mk ?_ ?_
  ·refine Qv (dj := 10) rfl (decide_eq_true h1') ?_
   exact Qf rfl rfl (QK rfl rfl (WpL.nil ⟨rfl, rfl, rfl, by exact Ent.refl _⟩))
  refine AllObs.mk ?_ ?_
  ·refine Qv (dj := 10) rfl (decide_eq_true h1') ?_
   exact Qf rfl rfl (Qj (o2 := 0) rfl rfl rfl (Ql rfl))
  refine AllObs.mk ?_ ?_
  ·refine Qv (dj := 10) rfl (decide_eq_true h1') ?_
   refine Qf rfl rfl (Qo rfl rfl (by rfl) ?_)
   exact Ql rfl
  refine AllObs.mk ?_ ?_
  ·refine Qv (dj := 10) rfl (decide_eq_true h1') ?_
   exact Qf rfl rfl (QO rfl rfl rfl (Ql rfl))
  refine AllObs.mk ?_ ?_
  ·refine Qv (dj := 10) rfl (decide_eq_true h1') ?_
   exact Qx rfl rfl rfl (Ql rfl)
  refine AllObs.mk ?_ ?_
  ·exact Qd rfl rfl (Ql rfl)
  refine AllObs.mk ?_ ?_
  ·refine Qv (dj := 17) rfl (decide_eq_true h2) ?_
   exact Qf rfl rfl (Qd rfl rfl (Ql rfl))
  refine AllObs.mk ?_ ?_
  ·refine Qv (dj := 17) rfl (decide_eq_true h2) ?_
   refine Qf rfl rfl (Qg rfl rfl (by repeat' constructor) (Max_spec [A1] _ _ _ hA1 (by have := Xs p; omega) (by unfold Yc at h1'; omega)) ?_)
   rintro _ _ ⟨rfl, rfl⟩
   simp only [Qr]
   exact WpL.nil ⟨rfl, rfl, rfl, by exact Ent.refl _⟩
  refine AllObs.mk ?_ ?_
  ·refine Qv (dj := 17) rfl (decide_eq_true h2) ?_
   exact Qf rfl rfl (Qj (o2 := 1) rfl rfl rfl (Ql rfl))
  refine AllObs.mk ?_ ?_
  ·refine Qv (dj := 17) rfl (decide_eq_true h2) ?_
   refine Qf rfl rfl (Qo rfl rfl (by rfl) ?_)
   exact Ql rfl
  refine AllObs.mk ?_ ?_
  ·refine Qv (dj := 17) rfl (decide_eq_true h2) ?_
   exact Qf rfl rfl (s_le rfl rfl rfl (Ql rfl))
  refine AllObs.mk ?_ ?_
  ·refine Qv (dj := 17) rfl (decide_eq_true h2) ?_
   exact Qx rfl rfl rfl (Ql rfl)
  refine AllObs.mk ?_ ?_
  ·exact Qe rfl rfl (Ql rfl)
  exact AllObs.nil
 ·refine Qh ?_
  apply RetQ.mk
  ·exact (Res.one rfl rfl)
  ·exact ⟨congrArg Value.bool (by exact dd (by unfold X1; rw [maxL_le _ _ (fun e => by rw [e] at h2; unfold Yc at h1'; simp at h2; omega)]; simp [h1', h2])), rfl⟩
  ·exact Ent.nil _

theorem Fits_spec (p ch mx : Int) (h0 : 0 ≤ p) (h1 : p < 18446744073709551616) : Fn Tryz.prog 132 #[.int .u64 p, .agg #[.int .i64 ch, .int .i64 mx]] [] (fun v l => v = .bool (decide (X1 p ch mx)) ∧ l = []) := by
  by_cases h2 : Yc ch mx
  · by_cases h3 : ((Qp p).length : Int) = ch
    · exact Fits_c p ch mx h0 h1 h2 h3
    · exact Fits_b p ch mx h0 h1 h2 h3
  · exact Fits_a p ch mx h0 h1 h2

end Go.Proofs.YtggamdlpiejbiaaGreat
