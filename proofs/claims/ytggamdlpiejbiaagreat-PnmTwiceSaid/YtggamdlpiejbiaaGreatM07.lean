/- Walks and plain laws, a part of the proof of PnmTwice: every input that the law's guards let in, no condition beside. -/
import Derived.Test.YtggamdlpiejbiaaGreatM06
namespace Go.Proofs.YtggamdlpiejbiaaGreat
open Go.RowKit Go.Shelf


/-- A pixel's samples, joined. -/
def Yj : List Int → Int → Int
  | [], p => p
  | n :: l, p => Yj l (p * 65536 + n)
def Z8 (n : Int) : Prop := 0 ≤ n ∧ n ≤ 65535
instance (n : Int) : Decidable (Z8 n) := by unfold Z8; infer_instance
theorem packF_snoc (l : List Int) (n p : Int) : Yj (l ++ [n]) p = Yj l p * 65536 + n := by
  induction l generalizing p with
  | nil => rfl
  | cons m l ih => exact ih _
theorem packF_bd (l : List Int) (h : ∀ n ∈ l, Z8 n) : 0 ≤ Yj l 0 ∧ Yj l 0 < 65536 ^ l.length := by
  suffices ∀ (l : List Int) (p : Int) (k : Nat), (∀ n ∈ l, Z8 n) → 0 ≤ p → p < 65536 ^ k → 0 ≤ Yj l p ∧ Yj l p < 65536 ^ (k + l.length) by
    have := this l 0 0 h (by omega) (by simp)
    simpa using this
  intro l
  induction l with
  | nil => intro p k _ h0 h1; exact ⟨h0, by simp [Yj]; exact h1⟩
  | cons n l ih =>
    intro p k hs h0 h1
    have hn := hs n (by simp)
    unfold Z8 at hn
    have := ih (p * 65536 + n) (k + 1) (fun m hm => hs m (by simp [hm])) (by omega) (by rw [Int.pow_succ]; omega)
    simp only [List.length_cons]
    rw [show k + (l.length + 1) = k + 1 + l.length by omega]
    exact this
theorem XU (l : List Int) {k : Nat} (h : k < l.length) : l.take (k + 1) = l.take k ++ [l[k]] := by
  rw [List.take_succ_eq_append_getElem h]
def Xn (l : List Int) : Int × Int := if l.length ≠ 1 ∧ l.length ≠ 3 then (0, 1) else if (l.all fun n => decide (0 ≤ n ∧ n ≤ 65535)) = true then (Yj l 0 + l.length * 281474976710656, 0) else (0, 4)
theorem packS_bad (l : List Int) (h : l.length = 1 ∨ l.length = 3) {k : Nat} (hk : k < l.length) (hb : ¬ Z8 l[k]) : Xn l = (0, 4) := by
  unfold Xn
  rw [if_neg (by omega), if_neg]
  intro ha
  have := List.all_eq_true.1 ha l[k] (List.getElem_mem hk)
  exact hb (by simpa [Z8] using this)
theorem packS_ok (l : List Int) (h : l.length = 1 ∨ l.length = 3) (hs : ∀ n ∈ l, Z8 n) : Xn l = (Yj l 0 + l.length * 281474976710656, 0) := by
  unfold Xn
  rw [if_neg (by omega), if_pos]
  exact List.all_eq_true.2 fun n hn => by have := hs n hn; unfold Z8 at this; simp; omega
theorem packF_step {l : List Int} {k : Nat} (hk : k < l.length) (h3 : l.length ≤ 3) (hs : ∀ n ∈ l.take k, Z8 n) : 0 ≤ Yj (l.take k) 0 ∧ Yj (l.take k) 0 < 4294967296 := by
  have h := packF_bd _ hs
  refine ⟨h.1, Int.lt_of_lt_of_le h.2 ?_⟩
  have : (l.take k).length ≤ 2 := by rw [List.length_take]; omega
  have e : (l.take k).length = 0 ∨ (l.take k).length = 1 ∨ (l.take k).length = 2 := by omega
  rcases e with e | e | e <;> rw [e] <;> decide
theorem packF_all {l : List Int} (h3 : l.length ≤ 3) (hs : ∀ n ∈ l, Z8 n) : 0 ≤ Yj l 0 ∧ Yj l 0 < 281474976710656 := by
  have h := packF_bd _ hs
  refine ⟨h.1, Int.lt_of_lt_of_le h.2 ?_⟩
  have e : l.length = 0 ∨ l.length = 1 ∨ l.length = 2 ∨ l.length = 3 := by omega
  rcases e with e | e | e | e <;> rw [e] <;> decide

theorem Pack_spec (As : List HP) (a : Option Addr) (c : Nat) (xs : List Int) (hA : RdsL As a (Q2 xs)) (hm : xs.length ≤ 281474976710656) : Fn Tryz.prog 186 #[.slice a xs.length c] As (fun v l => v = .tuple #[.int .u64 (Xn xs).1, .int .i64 (Xn xs).2] ∧ l = As) := by
 refine Qo (vs := [.slice a xs.length c]) Tryz.func186 rfl Tryz.ntmps186 rfl (Qb (Qa (Qd rfl rfl (Qd rfl rfl (WpL.nil ?_)))))
 refine Wp.cut (xs.length = 1 ∨ xs.length = 3) [2, 3, 7, 8, 9, 10, 11, 12, 13, 14] ?_ (fun hc0 => ?_)
 ·refine Qb (Qa (Qc rfl rfl (QO rfl rfl (Xu rfl rfl rfl (Qc rfl rfl (QP rfl rfl rfl (fun hg1 => ?_) (fun hg1 => ?_)))))))
  ·have hg1 := of_decide_eq_true hg1
   refine Qc rfl rfl (Qf rfl rfl (QO rfl rfl (Qf rfl rfl (Xu rfl rfl rfl (Qr rfl rfl rfl (WpL.nil (Qh rfl (fun h0 => ?_) (fun h0 => ?_))))))))
   ·refine Qb (Qa (Qd rfl rfl (Qd rfl rfl (WpL.nil (Qg ?_)))))
    apply RetQ.mk
    ·exact (QX rfl rfl rfl)
    ·exact ⟨by rw [Xn, if_pos (by omega)], rfl⟩
    ·exact Ent.refl _
   ·refine Wp.skip ?_
    refine cut_end ?_ (by ((repeat (first | exact Top.refl | refine Top.push rfl ?_)); done)) (by exact Ent.refl _)
    omega
  ·have hg1 := of_decide_eq_false hg1
   refine Qe rfl rfl rfl (by decide) (Qe rfl rfl rfl (by decide) (Qu rfl rfl rfl (WpL.nil (QS rfl (Wp.skip ?_)))))
   refine cut_end ?_ (by ((repeat (first | exact Top.refl | refine Top.push rfl ?_)); done)) (by exact Ent.refl _)
   omega
 ·refine Qb (Qa (Qd rfl rfl (WpL.nil (Qb (Qb (Qa (Qc rfl rfl (QO rfl rfl (Qc rfl rfl (WpL.nil (Wp.block ?_)))))))))))
  refine Wp.loopD (σ := Nat) (fun k => k ≤ xs.length ∧ ∀ n ∈ xs.take k, Z8 n) [2, 3, 4, 6, 17, 18, 19, 20, 21, 22, 23, 24, 25, 26, 27, 28, 29, 30, 31, 32] (fun k => [(17, .int .i64 (k : Int)), (4, .int .u64 (Yj (xs.take k) 0))]) (fun _ => _) (fun k => xs.length - k) 0 ?_ (FrLe.cons rfl (FrLe.cons rfl FrLe.nil)) (Ent.refl _) ?_
  ·exact ⟨Nat.zero_le _, by simp⟩
  ·rintro k ⟨hk, hsm⟩
   refine Qb (Qa (Xc rfl rfl rfl (WpL.nil (Qb (Qh rfl (fun h2 => ?_) (fun h2 => ?_))))))
   ·have hlt : k < xs.length := by omega
    refine Wp.skip (Qb (Wp.block ?_))
    refine Qb (Qa (Xs k rfl rfl rfl hA (by (repeat (exact Ent.refl _))) rfl (by omega) (by simp only [lens]; omega) ?_))
    refine Xv rfl rfl hA (by (repeat (exact Ent.refl _))) (XO xs hlt) ?_
    refine Qd rfl rfl (WpL.nil ?_)
    refine Wp.cut (Z8 xs[k]) [2, 3, 21, 22, 23, 24, 25, 26] ?_ (fun hc3 => ?_)
    ·refine Qb (Qa (Qc rfl rfl (Xc rfl rfl rfl (Qc rfl rfl (QP rfl rfl rfl (fun hg2 => ?_) (fun hg2 => ?_))))))
     ·have hg2 := of_decide_eq_false hg2
      refine Qc rfl rfl (Qf rfl rfl (XJ rfl rfl rfl (Qu rfl rfl rfl (WpL.nil (Qh rfl (fun h3 => ?_) (fun h3 => ?_))))))
      ·refine Qb (Qa (Qd rfl rfl (Qd rfl rfl (WpL.nil (Qg ?_)))))
       apply RetQ.mk
       ·exact (QX rfl rfl rfl)
       ·exact ⟨by rw [packS_bad xs (by omega) hlt (by unfold Z8; omega)], rfl⟩
       ·exact Ent.refl _
      ·refine Wp.skip ?_
       refine cut_end ?_ (by ((repeat (first | exact Top.refl | refine Top.push rfl ?_)); done)) (by exact Ent.refl _)
       unfold Z8; omega
     ·have hg2 := of_decide_eq_true hg2
      refine Qe rfl rfl rfl (by decide) (Qr rfl rfl rfl (WpL.nil (Xg rfl (Qb (Qa (Qd rfl rfl (Qd rfl rfl (WpL.nil (Qg ?_)))))))))
      apply RetQ.mk
      ·exact (QX rfl rfl rfl)
      ·exact ⟨by rw [packS_bad xs (by omega) hlt (by unfold Z8; omega)], rfl⟩
      ·exact Ent.refl _
    ·have hp := packF_step hlt (by omega) hsm
     have hgood := hc3
     unfold Z8 at hc3
     have hstep : Yj (xs.take k) 0 * 65536 + xs[k] = Yj (xs.take (k + 1)) 0 := by rw [XU xs hlt, packF_snoc]
     refine Qa (Qc rfl rfl (s_shl 65536 rfl rfl rfl (by decide) (w_u64 (by omega) (by omega)) ?_))
     refine Qc rfl rfl (Yk rfl Tryz.underlying3 rfl (w_u64 (by omega) (by omega)) ?_)
     refine s_or (Yj (xs.take k) 0) 16 rfl rfl rfl (by simp) hp.1 (by simp only [IntKind.bits]; omega) hc3.1 (by omega) (by decide) (w_u64 (by omega) (by omega)) ?_
     refine Qd rfl rfl (WpL.nil (Qa (Qx rfl rfl rfl (Qp (by omega) (by omega)) ?_)))
     refine Qc rfl rfl (WpL.nil (Qq (k + 1) ?_ ?_ (by ((repeat (first | exact Top.refl | refine Top.push rfl ?_)); done)) (FrLe.cons rfl (FrLe.cons (congrArg (fun x => some (Value.int .u64 x)) hstep) FrLe.nil)) ?_))
     ·refine ⟨by omega, ?_⟩
      rw [XU xs hlt]
      intro n hn
      rcases List.mem_append.1 hn with hn | hn
      ·exact hsm n hn
      ·have := List.mem_singleton.1 hn; subst this; exact hgood
     ·omega
     ·exact Ent.refl _
   ·have hke : k = xs.length := by omega
    have hsm' : ∀ n ∈ xs, Z8 n := by rw [hke, List.take_length] at hsm; exact hsm
    have hpa := packF_all (by omega) hsm'
    have hpt : Yj (xs.take k) 0 = Yj xs 0 := by rw [hke, List.take_length]
    refine QV (Qb (Qa (Qc rfl rfl (Qc rfl rfl (QO rfl rfl (Yk rfl Tryz.underlying3 rfl (w_u64 (by omega) (by omega)) ?_))))))
    refine s_shl 281474976710656 rfl rfl rfl (by decide) (w_u64 (by omega) (by omega)) ?_
    rw [hpt]
    refine s_orw xs.length 48 rfl rfl rfl (by simp) (by omega) (by simp only [IntKind.bits]; omega) hpa.1 (by omega) (by decide) (w_u64 (by omega) (by omega)) ?_
    refine Qd rfl rfl (Qd rfl rfl (WpL.nil (Qg ?_)))
    apply RetQ.mk
    ·exact (QX rfl rfl rfl)
    ·exact ⟨by rw [packS_ok xs (by omega) hsm', Int.add_comm], rfl⟩
    ·exact Ent.refl _


def Qw (p : Int) : List Int := if p / 281474976710656 = 3 then [p / 4294967296 % 65536, p / 65536 % 65536, p % 65536] else if p / 281474976710656 = 1 ∧ p / 4294967296 % 65536 = 0 ∧ p / 65536 % 65536 = 0 then [p % 65536] else []
/-- A slice handed back that may be read. -/
def SlI (v : Value) (l : List HP) (xs : List Int) : Prop := ∃ A a c, l = [A] ∧ v = .slice a xs.length c ∧ RdsL [A] a (Q2 xs) ∧ (xs = [] → a = none)
theorem SlI.nil {xs : List Int} (h : xs = []) : SlI (.slice none 0 0) [emp] xs := ⟨emp, none, 0, rfl, by simp [h], by rw [h]; exact RdsL.nil, fun _ => rfl⟩
theorem SlI.blk {g o T c m : Nat} {cs : List Value} {xs : List Int} (h : (cs.drop o).take xs.length = Q2 xs) (hm : xs.length = m) (hn : 0 < m) : SlI (.slice (some ⟨g, o, none⟩) m c) [QD g cs T] xs := by
  subst hm
  exact ⟨_, _, c, rfl, rfl, RdsL.blk (by rw [Xm]; exact h), fun e => by rw [e] at hn; cases hn⟩

theorem Vj (p : Int) (h0 : 0 ≤ p) (h1 : p < 18446744073709551616) : Fn Tryz.prog 99 #[.int .u64 p] [] (fun v l => SlI v l (Qw p)) := by
 refine Qo (vs := [.int .u64 p]) Tryz.func99 rfl Tryz.ntmps99 rfl (Qb (Qa (Qd rfl rfl (WpL.nil (Qb (Qa (Qc rfl rfl (Y2 rfl rfl rfl (by omega) (by omega) (w_u64 (by omega) (by omega)) ?_))))))))
 refine Qd rfl rfl (WpL.nil (Qb (Qa (Qc rfl rfl (YO rfl rfl rfl (by omega) (by omega) ?_)))))
 refine Yk rfl Tryz.underlying92 rfl (Qp (by omega) (by omega)) ?_
 refine Qd rfl rfl (WpL.nil (Qb (Qb (Qa (Qc rfl rfl (QJ rfl rfl rfl (WpL.nil (Qh rfl (fun h0 => ?_) (fun h0 => ?_)))))))))
 ·refine Qb (Qa (Qc rfl rfl (Y2 rfl rfl rfl (by omega) (by omega) (Qp (by omega) (by omega)) ?_)))
  refine Qc rfl rfl (Y2 rfl rfl rfl (by omega) (by omega) (Qp (by omega) (by omega)) ?_)
  refine YO rfl rfl rfl (by omega) (by omega) ?_
  refine Qc rfl rfl (YO rfl rfl rfl (by omega) (by omega) ?_)
  refine s_bs3 rfl rfl rfl rfl rfl rfl rfl rfl ?_
  intro g1
  refine Qd rfl rfl (WpL.nil (Qg ?_))
  apply RetQ.mk
  ·exact (Res.one rfl rfl)
  ·have e : Qw p = [p % 281474976710656 / 4294967296, p % 281474976710656 / 65536 % 65536, p % 281474976710656 % 65536] := by rw [Qw, if_pos (by omega), show p / 4294967296 % 65536 = p % 281474976710656 / 4294967296 by omega, show p / 65536 % 65536 = p % 281474976710656 / 65536 % 65536 by omega, show p % 65536 = p % 281474976710656 % 65536 by omega]
   rw [e]
   exact SlI.blk (T := 3) (o := 0) (cs := [.int .i64 (p % 281474976710656 / 4294967296), .int .i64 (p % 281474976710656 / 65536 % 65536), .int .i64 (p % 281474976710656 % 65536)]) rfl rfl (by decide)
  ·exact Ent.refl _
 ·refine Wp.skip (Qb (Qb (Qa (Qc rfl rfl (QJ rfl rfl rfl (Qc rfl rfl (QP rfl rfl rfl (fun hg1 => ?_) (fun hg1 => ?_))))))))
  ·have hg1 := of_decide_eq_true hg1
   refine Qc rfl rfl (Qf rfl rfl (Xc rfl rfl rfl (Qr rfl rfl rfl (WpL.nil (Qh rfl (fun h1 => ?_) (fun h1 => ?_))))))
   ·refine Qb (Qa (Qc rfl rfl ?_))
    refine X7 rfl rfl rfl rfl ?_
    intro g2
    refine Qd rfl rfl (WpL.nil (Qg ?_))
    apply RetQ.mk
    ·exact (Res.one rfl rfl)
    ·have e : Qw p = [p % 281474976710656] := by rw [Qw, if_neg (by omega), if_pos (by omega), show p % 65536 = p % 281474976710656 by omega]
     rw [e]
     exact SlI.blk (T := 3) (o := 0) (cs := [.int .i64 (p % 281474976710656)]) rfl rfl (by decide)
    ·exact Ent.refl _
   ·refine Wp.skip (Qb (Qa (Qd rfl rfl (WpL.nil (Qg ?_)))))
    apply RetQ.mk
    ·exact (Res.one rfl rfl)
    ·exact SlI.nil (by rw [Qw, if_neg (by omega), if_neg (by omega)])
    ·exact ZJ (Ent.nil _)
  ·have hg1 := of_decide_eq_false hg1
   refine Qe rfl rfl rfl (by decide) (Qu rfl rfl rfl (WpL.nil (QS rfl (Wp.skip (Qb (Qa (Qd rfl rfl (WpL.nil (Qg ?_)))))))))
   apply RetQ.mk
   ·exact (Res.one rfl rfl)
   ·exact SlI.nil (by rw [Qw, if_neg (by omega), if_neg (by omega)])
   ·exact ZJ (Ent.nil _)

def FmtP (ch mx : Int) : Prop := (ch = 1 ∨ ch = 3) ∧ 1 ≤ mx ∧ mx ≤ 65535
instance (ch mx : Int) : Decidable (FmtP ch mx) := by unfold FmtP; infer_instance

theorem rFormat1_spec (ch mx : Int) : Fn Tryz.prog 73 #[.agg #[.int .i64 ch, .int .i64 mx]] [] (fun v l => v = .bool (decide (FmtP ch mx)) ∧ l = []) := by
 refine Qo (vs := [.agg #[.int .i64 ch, .int .i64 mx]]) Tryz.func73 rfl Tryz.ntmps73 rfl (Qb (Qa (Xf rfl rfl rfl ?_)))
 intro g1
 refine Qd rfl rfl (WpL.nil (Qb (Qa (Qj (o2 := 0) rfl rfl rfl (Qm rfl rfl (by rfl) ?_)))))
 refine QJ rfl rfl rfl (Qc rfl rfl (QP rfl rfl rfl (fun hg1 => ?_) (fun hg1 => ?_)))
 ·have hg1 := of_decide_eq_false hg1
  refine Qj (o2 := 0) rfl rfl rfl (Qf rfl rfl (Qm rfl rfl (by rfl) ?_))
  refine Qf rfl rfl (QJ rfl rfl rfl (Qu rfl rfl rfl (Qc rfl rfl (QP rfl rfl rfl (fun hg2 => ?_) (fun hg2 => ?_)))))
  ·have hg2 := of_decide_eq_true hg2
   refine Qj (o2 := 1) rfl rfl rfl (Qf rfl rfl (Qm rfl rfl (by rfl) ?_))
   refine Qf rfl rfl (XJ rfl rfl rfl (Qr rfl rfl rfl (Qc rfl rfl (QP rfl rfl rfl (fun hg3 => ?_) (fun hg3 => ?_)))))
   ·have hg3 := of_decide_eq_true hg3
    refine Qj (o2 := 1) rfl rfl rfl (Qf rfl rfl (Qm rfl rfl (by rfl) ?_))
    refine Qf rfl rfl (Xc rfl rfl rfl (Qr rfl rfl rfl (Qd rfl rfl (WpL.nil (Qg ?_)))))
    apply RetQ.mk
    ·exact (Res.one rfl rfl)
    ·exact ⟨congrArg Value.bool (by exact dd (by unfold FmtP; omega)), rfl⟩
    ·exact Ent.nil _
   ·have hg3 := of_decide_eq_false hg3
    refine Qe rfl rfl rfl (by decide) (Qe rfl rfl rfl (by decide) (Qu rfl rfl rfl (Qd rfl rfl (WpL.nil (Qg ?_)))))
    apply RetQ.mk
    ·exact (Res.one rfl rfl)
    ·exact ⟨congrArg Value.bool (by exact df (by unfold FmtP; omega)), rfl⟩
    ·exact Ent.nil _
  ·have hg2 := of_decide_eq_false hg2
   refine Qe rfl rfl rfl (by decide) (Qe rfl rfl rfl (by decide) (Qu rfl rfl rfl (Qc rfl rfl (Qe rfl rfl rfl (by decide) (Qe rfl rfl rfl (by decide) (Qe rfl rfl rfl (by decide) (Qu rfl rfl rfl (Qd rfl rfl (WpL.nil (Qg ?_))))))))))
   apply RetQ.mk
   ·exact (Res.one rfl rfl)
   ·exact ⟨congrArg Value.bool (by exact df (by unfold FmtP; omega)), rfl⟩
   ·exact Ent.nil _
 ·have hg1 := of_decide_eq_true hg1
  refine Qe rfl rfl rfl (by decide) (Qe rfl rfl rfl (by decide) (Qr rfl rfl rfl (Qc rfl rfl (Qf rfl rfl (Qj (o2 := 1) rfl rfl rfl (Qf rfl rfl (Qm rfl rfl (by rfl) ?_)))))))
  refine Qf rfl rfl (XJ rfl rfl rfl (Qr rfl rfl rfl (Qc rfl rfl (QP rfl rfl rfl (fun hg4 => ?_) (fun hg4 => ?_)))))
  ·have hg4 := of_decide_eq_true hg4
   refine Qj (o2 := 1) rfl rfl rfl (Qf rfl rfl (Qm rfl rfl (by rfl) ?_))
   refine Qf rfl rfl (Xc rfl rfl rfl (Qr rfl rfl rfl (Qd rfl rfl (WpL.nil (Qg ?_)))))
   apply RetQ.mk
   ·exact (Res.one rfl rfl)
   ·exact ⟨congrArg Value.bool (by exact dd (by unfold FmtP; omega)), rfl⟩
   ·exact Ent.nil _
  ·have hg4 := of_decide_eq_false hg4
   refine Qe rfl rfl rfl (by decide) (Qe rfl rfl rfl (by decide) (Qu rfl rfl rfl (Qd rfl rfl (WpL.nil (Qg ?_)))))
   apply RetQ.mk
   ·exact (Res.one rfl rfl)
   ·exact ⟨congrArg Value.bool (by exact df (by unfold FmtP; omega)), rfl⟩
   ·exact Ent.nil _

theorem rin_spec (x : Int) : Fn Tryz.prog 154 #[.int .i64 x] [] (fun v l => v = .bool (decide (Z8 x)) ∧ l = []) := by
 refine Qo (vs := [.int .i64 x]) Tryz.func154 rfl Tryz.ntmps154 rfl (Qb (Qa (Qd rfl rfl (WpL.nil (Qb (Qa (Qc rfl rfl (s_ge rfl rfl rfl (Qc rfl rfl (QP rfl rfl rfl (fun hg1 => ?_) (fun hg1 => ?_)))))))))))
 ·have hg1 := of_decide_eq_true hg1
  refine Qc rfl rfl (Qf rfl rfl (s_le rfl rfl rfl (Qr rfl rfl rfl (Qd rfl rfl (WpL.nil (Qg ?_))))))
  apply RetQ.mk
  ·exact (Res.one rfl rfl)
  ·exact ⟨congrArg Value.bool (by exact dd (by unfold Z8; omega)), rfl⟩
  ·exact Ent.refl _
 ·have hg1 := of_decide_eq_false hg1
  refine Qe rfl rfl rfl (by decide) (Qu rfl rfl rfl (Qd rfl rfl (WpL.nil (Qg ?_))))
  apply RetQ.mk
  ·exact (Res.one rfl rfl)
  ·exact ⟨congrArg Value.bool (by exact df (by unfold Z8; omega)), rfl⟩
  ·exact Ent.refl _

theorem YI (As : List HP) (a : Option Addr) (c : Nat) (xs : List Int) (hA : RdsL As a (Q2 xs)) (hm : xs.length ≤ 281474976710656) : Fn Tryz.prog 100 #[.slice a xs.length c] As (fun v l => v = .tuple #[.int .u64 (Xn xs).1, .int .i64 (Xn xs).2] ∧ l = As) := by
 refine Qo (vs := [.slice a xs.length c]) Tryz.func100 rfl Tryz.ntmps100 rfl (Qb (Qa (Qd rfl rfl (Qd rfl rfl (WpL.nil ?_)))))
 refine Wp.cut (xs.length = 1 ∨ xs.length = 3) [2, 3, 6, 7, 8, 9, 10, 11, 12, 13] ?_ (fun hc0 => ?_)
 ·refine Qb (Qa (Qc rfl rfl (QO rfl rfl (Xu rfl rfl rfl (Qc rfl rfl (QP rfl rfl rfl (fun hg1 => ?_) (fun hg1 => ?_)))))))
  ·have hg1 := of_decide_eq_true hg1
   refine Qc rfl rfl (Qf rfl rfl (QO rfl rfl (Qf rfl rfl (Xu rfl rfl rfl (Qr rfl rfl rfl (WpL.nil (Qh rfl (fun h0 => ?_) (fun h0 => ?_))))))))
   ·refine Qb (Qa (Qd rfl rfl (Qd rfl rfl (WpL.nil (Qg ?_)))))
    apply RetQ.mk
    ·exact (QX rfl rfl rfl)
    ·exact ⟨by rw [Xn, if_pos (by omega)], rfl⟩
    ·exact Ent.refl _
   ·refine Wp.skip ?_
    refine cut_end ?_ (by ((repeat (first | exact Top.refl | refine Top.push rfl ?_)); done)) (by exact Ent.refl _)
    omega
  ·have hg1 := of_decide_eq_false hg1
   refine Qe rfl rfl rfl (by decide) (Qe rfl rfl rfl (by decide) (Qu rfl rfl rfl (WpL.nil (QS rfl (Wp.skip ?_)))))
   refine cut_end ?_ (by ((repeat (first | exact Top.refl | refine Top.push rfl ?_)); done)) (by exact Ent.refl _)
   omega
 ·refine Qb (Qa (Qd rfl rfl (WpL.nil (Qb (Qb (Qa (Qd rfl rfl (WpL.nil (Wp.block ?_)))))))))
  refine Wp.loopD (σ := Nat) (fun k => k ≤ xs.length ∧ ∀ n ∈ xs.take k, Z8 n) [2, 3, 4, 5, 14, 15, 16, 17, 18, 19, 20, 21, 22, 23, 24, 25, 26, 27, 28, 29, 30, 31, 32] (fun k => [(5, .int .i64 (k : Int)), (4, .int .i64 (Yj (xs.take k) 0))]) (fun _ => _) (fun k => xs.length - k) 0 ?_ (FrLe.cons rfl (FrLe.cons rfl FrLe.nil)) (Ent.refl _) ?_
  ·exact ⟨Nat.zero_le _, by simp⟩
  ·rintro k ⟨hk, hsm⟩
   refine Qb (Qb (Qa (Qc rfl rfl (Qc rfl rfl (QO rfl rfl (Xc rfl rfl rfl (WpL.nil (Qh rfl (fun h2 => ?_) (fun h2 => ?_)))))))))
   ·have hlt : k < xs.length := by omega
    refine Wp.skip (Qb (Wp.block ?_))
    refine Wp.cut (Z8 xs[k]) [2, 3, 20, 21, 22, 23, 24, 25] ?_ (fun hc3 => ?_)
    ·refine Qb (Qa (Qc rfl rfl (Qc rfl rfl (Xs k rfl rfl rfl hA (by (repeat (exact Ent.refl _))) rfl (by omega) (by simp only [lens]; omega) ?_))))
     refine Xv rfl rfl hA (by (repeat (exact Ent.refl _))) (XO xs hlt) ?_
     refine Qk rfl rfl (by repeat' constructor) (rin_spec _) ?_
     rintro _ _ ⟨rfl, rfl⟩
     simp only [Qv]
     refine Yt rfl rfl (WpL.nil (Qh rfl (fun h3 => ?_) (fun h3 => ?_)))
     ·refine Qb (Qa (Qd rfl rfl (Qd rfl rfl (WpL.nil (Qg ?_)))))
      apply RetQ.mk
      ·exact (QX rfl rfl rfl)
      ·exact ⟨by rw [packS_bad xs (by omega) hlt h3], rfl⟩
      ·exact Ent.refl _
     ·refine Wp.skip ?_
      refine cut_end ?_ (by ((repeat (first | exact Top.refl | refine Top.push rfl ?_)); done)) (by exact Ent.refl _)
      exact Decidable.not_not.1 h3
    ·have hp := packF_step hlt (by omega) hsm
     have hgood := hc3
     unfold Z8 at hc3
     have hstep : Yj (xs.take k) 0 * 65536 + xs[k] = Yj (xs.take (k + 1)) 0 := by rw [XU xs hlt, packF_snoc]
     refine Qa (Qc rfl rfl (XQ rfl rfl rfl (Qp (by omega) (by omega)) ?_))
     refine Qc rfl rfl (Qc rfl rfl (Xs k rfl rfl rfl hA (by (repeat (exact Ent.refl _))) rfl (by omega) (by simp only [lens]; omega) ?_))
     refine Xv rfl rfl hA (by (repeat (exact Ent.refl _))) (XO xs hlt) ?_
     refine Qx rfl rfl rfl (Qp (by omega) (by omega)) ?_
     refine Qd rfl rfl (WpL.nil (Qa (Qc rfl rfl (Qx rfl rfl rfl (Qp (by omega) (by omega)) ?_))))
     refine Qd rfl rfl (WpL.nil (Qq (k + 1) ?_ ?_ (by ((repeat (first | exact Top.refl | refine Top.push rfl ?_)); done)) (FrLe.cons rfl (FrLe.cons (by exact congrArg (fun x => some (Value.int .i64 x)) hstep) FrLe.nil)) ?_))
     ·refine ⟨by omega, ?_⟩
      rw [XU xs hlt]
      intro n hn
      rcases List.mem_append.1 hn with hn | hn
      ·exact hsm n hn
      ·have := List.mem_singleton.1 hn; subst this; exact hgood
     ·omega
     ·exact Ent.refl _
   ·have hke : k = xs.length := by omega
    have hsm' : ∀ n ∈ xs, Z8 n := by rw [hke, List.take_length] at hsm; exact hsm
    have hpa := packF_all (by omega) hsm'
    have hpt : Yj (xs.take k) 0 = Yj xs 0 := by rw [hke, List.take_length]
    refine QV (Qb (Qa (Qc rfl rfl (Qc rfl rfl (QO rfl rfl (XQ rfl rfl rfl (Qp (by omega) (by omega)) ?_))))))
    rw [hpt]
    refine Qx rfl rfl rfl (Qp (by omega) (by omega)) ?_
    refine Yk rfl Tryz.underlying3 rfl (w_u64 (by omega) (by omega)) ?_
    refine Qd rfl rfl (Qd rfl rfl (WpL.nil (Qg ?_)))
    apply RetQ.mk
    ·exact (QX rfl rfl rfl)
    ·exact ⟨by rw [packS_ok xs (by omega) hsm'], rfl⟩
    ·exact Ent.refl _


def FitP (p ch mx : Int) : Prop := FmtP ch mx ∧ ((Qw p).length : Int) = ch ∧ ∀ n ∈ Qw p, n ≤ mx
instance (p ch mx : Int) : Decidable (FitP p ch mx) := by unfold FitP; infer_instance
theorem unpackS_len (p : Int) : (Qw p).length ≤ 3 := by unfold Qw; split <;> (try split) <;> simp

end Go.Proofs.YtggamdlpiejbiaaGreat
