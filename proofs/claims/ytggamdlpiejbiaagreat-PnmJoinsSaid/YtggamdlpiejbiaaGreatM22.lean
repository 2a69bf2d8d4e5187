/- Walks and plain laws, a part of the proof of PnmJoins: every input that the law's guards let in, no condition beside. -/
import Derived.Lib.ConvBytes
import Derived.Test.YtggamdlpiejbiaaGreatM21
namespace Go.Proofs.YtggamdlpiejbiaaGreat
open Go.RowKit Go.Shelf

theorem Decimal6_spec (n : Int) (h0 : 0 ≤ n) (h1 : n ≤ 1000000) : Fn Tryz.prog 118 #[.int .i64 n] [] (fun v l => ∃ s, v = .string s ∧ Xh s = XG n.toNat ∧ l = []) := by
 refine Qk (vs := [.int .i64 n]) Tryz.func118 rfl Tryz.ntmps118 rfl (Qb (Qa (Qe rfl rfl (WpL.nil (Qb (Qa (Qc rfl rfl (YV rfl rfl rfl (by omega) (by omega) ?_))))))))
 refine Qe rfl rfl (WpL.nil (Qb (Qb (Qa (Qc rfl rfl (Q7 rfl rfl rfl (WpL.nil (Qz rfl (by omega) ?_))))))))
 refine Wp.skip (Qb (Qa (Qc rfl rfl (QD rfl rfl rfl (Qu (by omega) (by omega)) ?_))))
 refine Yg rfl Tryz.underlying3 rfl (w_u8 (by omega) (by omega)) ?_
 refine Yb rfl rfl rfl rfl ?_
 intro g1
 rw [show ([.int .u8 (48 + n % 10)] : List Value) = Xr [48 + n % 10] from rfl]
 refine s_b2s (xs := [48 + n % 10]) rfl Tryz.underlying22 Tryz.underlying5 Tryz.underlying9 rfl rfl (Qe rfl rfl (WpL.nil (Qb (Qb (Qa (Qc rfl rfl (Zm rfl rfl rfl (Qc rfl rfl (Qx (dj := 18) rfl (decide_eq_true (by omega)) ?_)))))))))
 refine Qf rfl rfl (Qc rfl rfl (Qf rfl rfl (Q7 rfl rfl rfl (Qt rfl rfl rfl (WpL.nil (Ql rfl (fun h1 => ?_) (fun h1 => ?_)))))))
 ·refine Qb (Qb (Qa (Qc rfl rfl (Q7 rfl rfl rfl (WpL.nil (Qz rfl (by omega) ?_))))))
  refine Wp.skip (Qb (Qa (Qc rfl rfl (Qe rfl rfl (WpL.nil (Qi ?_))))))
  apply RetQ.mk
  ·exact (Res.one rfl rfl)
  ·exact ⟨_, rfl, by rw [Y8 (by intro x hx; simp at hx; omega), XG, if_pos (by omega)]; congr 1; omega, rfl⟩
  ·exact Ent.nil _
 ·refine Wp.skip (Qb (Qa (Qc rfl rfl (ZG rfl rfl rfl (by omega) (by omega) (Qu (by omega) (by omega)) ?_))))
  refine Qh rfl rfl (by repeat' constructor) (Decimal6_spec (n / 10) (by omega) (by omega)) ?_
  rintro _ _ ⟨s1, rfl, hs1, rfl⟩
  simp only [Qr]
  have hsz1 : s1.size ≤ 1000001 := by rw [← XS, hs1]; have := Yl (n / 10).toNat; omega
  refine Qc rfl rfl (Yo rfl rfl rfl (by rw [ZC]; simp; omega) ?_)
  refine Qe rfl rfl (WpL.nil (Qi ?_))
  apply RetQ.mk
  ·exact (Res.one rfl rfl)
  ·exact ⟨_, rfl, by rw [X0, hs1, Y8 (by intro x hx; simp at hx; omega), digs_rec (n := n) (by omega)], rfl⟩
  ·exact Ent.nil _
termination_by n.toNat
decreasing_by omega


def hdW (K W H M : Int) : List Int := [80] ++ XG K.toNat ++ [10] ++ XG W.toNat ++ [32] ++ XG H.toNat ++ [10] ++ (if K = 1 ∨ K = 4 then [] else XG M.toNat ++ [10])
theorem lit1 (x : UInt8) : (ByteArray.mk #[x]).size = 1 := rfl
theorem ZK (n : Int) (h0 : 0 ≤ n) (h1 : n ≤ 1000000) : Fn Tryz.prog 118 #[.int .i64 n] [] (fun v l => v = .string (strOfNums (XG n.toNat)) ∧ l = []) := by
  refine Fn.mono (Decimal6_spec n h0 h1) ?_
  rintro v l ⟨s, rfl, hs, rfl⟩
  exact ⟨_, ⟨by rw [bsOf_inj (hs.trans (ZE _).symm)], rfl⟩, Ent.nil _⟩
theorem ZO {n : Int} (h : n ≤ 1000000) : (strOfNums (XG n.toNat)).size ≤ 1000001 := by
  rw [ZC]
  have := Yl n.toNat
  omega

theorem rWrite06_spec (K W H M : Int) (hM : Xv K W H M) : Fn Tryz.prog 68 #[.agg #[.int .i64 K, .int .i64 W, .int .i64 H, .int .i64 M]] [] (fun v l => ∃ s, Xh s = hdW K W H M ∧ v = .tuple #[.string s, .int .i64 0] ∧ l = []) := by
 have hM2 := hM
 unfold Xv at hM2
 have hs1 := ZO (n := K) (by omega)
 have hs2 := ZO (n := W) (by omega)
 have hs3 := ZO (n := H) (by omega)
 have hs4 := ZO (n := M) (by omega)
 refine Qk (vs := [.agg #[.int .i64 K, .int .i64 W, .int .i64 H, .int .i64 M]]) Tryz.func68 rfl Tryz.ntmps68 rfl (Qb (Qa (Q9 rfl rfl rfl ?_)))
 intro gH
 refine Qe rfl rfl (Qe rfl rfl (WpL.nil (Qb (Qa ?_))))
 refine QI (vs := [_, _, _, _]) rfl rfl rfl (by rfl) ?_
 refine Qh rfl rfl (by repeat' constructor) (rMay06_spec _ _ _ _) ?_
 rintro _ _ ⟨rfl, rfl⟩
 simp only [Qr]
 refine Qe rfl rfl (WpL.nil (Qb (Qb (Qa (Qc rfl rfl (XN rfl rfl (WpL.nil (Ql rfl (fun h0 => ?_) (fun h0 => ?_)))))))))
 ·exfalso; exact absurd hM h0
 ·refine Wp.skip (Qb ?_)
  apply Q0 mixed [⟨10, _, []⟩, ⟨11, _, [0]⟩, ⟨12, _, [1]⟩, ⟨13, _, [2]⟩, ⟨14, _, [3]⟩, ⟨15, _, []⟩, ⟨16, _, [5]⟩, ⟨17, _, [6, 2]⟩, ⟨18, _, [4, 7]⟩, ⟨19, _, [8]⟩, ⟨20, _, []⟩, ⟨21, _, [10]⟩, ⟨22, _, [11, 7]⟩, ⟨23, _, [9, 12]⟩, ⟨24, _, [13]⟩, ⟨5, _, [14, 12, 0, 1, 2, 3, 4, 5, 6, 7, 8, 9, 10, 11, 13]⟩] rfl
  ·refine AllObs.mk ?_ ?_
   ·exact Qj (o2 := 0) rfl rfl rfl (Qm rfl)
   refine AllObs.mk ?_ ?_
   ·refine Qo rfl rfl (by rfl) ?_
    exact Qm rfl
   refine AllObs.mk ?_ ?_
   ·refine Qh rfl rfl (by repeat' constructor) (ZK _ (by omega) (by omega)) ?_
    rintro _ _ ⟨rfl, rfl⟩
    simp only [Qr]
    exact WpL.nil ⟨rfl, rfl, rfl, by exact Ent.refl _⟩
   refine AllObs.mk ?_ ?_
   ·refine Yo rfl rfl rfl (by simp only [lit1]; omega) ?_
    exact Qm rfl
   refine AllObs.mk ?_ ?_
   ·refine Yo rfl rfl rfl (by simp only [ByteArray.size_append, lit1]; omega) ?_
    exact Qm rfl
   refine AllObs.mk ?_ ?_
   ·exact Qj (o2 := 1) rfl rfl rfl (Qm rfl)
   refine AllObs.mk ?_ ?_
   ·refine Qo rfl rfl (by rfl) ?_
    exact Qm rfl
   refine AllObs.mk ?_ ?_
   ·refine Qh rfl rfl (by repeat' constructor) (ZK _ (by omega) (by omega)) ?_
    rintro _ _ ⟨rfl, rfl⟩
    simp only [Qr]
    exact WpL.nil ⟨rfl, rfl, rfl, by exact Ent.refl _⟩
   refine AllObs.mk ?_ ?_
   ·refine Yo rfl rfl rfl (by simp only [ByteArray.size_append, lit1]; omega) ?_
    exact Qm rfl
   refine AllObs.mk ?_ ?_
   ·refine Yo rfl rfl rfl (by simp only [ByteArray.size_append, lit1]; omega) ?_
    exact Qm rfl
   refine AllObs.mk ?_ ?_
   ·exact Qj (o2 := 2) rfl rfl rfl (Qm rfl)
   refine AllObs.mk ?_ ?_
   ·refine Qo rfl rfl (by rfl) ?_
    exact Qm rfl
   refine AllObs.mk ?_ ?_
   ·refine Qh rfl rfl (by repeat' constructor) (ZK _ (by omega) (by omega)) ?_
    rintro _ _ ⟨rfl, rfl⟩
    simp only [Qr]
    exact WpL.nil ⟨rfl, rfl, rfl, by exact Ent.refl _⟩
   refine AllObs.mk ?_ ?_
   ·refine Yo rfl rfl rfl (by simp only [ByteArray.size_append, lit1]; omega) ?_
    exact Qm rfl
   refine AllObs.mk ?_ ?_
   ·refine Yo rfl rfl rfl (by simp only [ByteArray.size_append, lit1]; omega) ?_
    exact Qm rfl
   refine AllObs.mk ?_ ?_
   ·exact Qe rfl rfl (Qm rfl)
   exact AllObs.nil
  ·refine Qb (Qb (Qa (Qj (o2 := 0) rfl rfl rfl (Qo rfl rfl (by rfl) ?_))))
   refine Qh rfl rfl (by repeat' constructor) (rbits_spec _) ?_
   rintro _ _ ⟨rfl, rfl⟩
   simp only [Qr]
   refine XN rfl rfl (WpL.nil (Ql rfl (fun h1 => ?_) (fun h1 => ?_)))
   ·refine Qa (Qc rfl rfl (Qj (o2 := 3) rfl rfl rfl (Qo rfl rfl (by rfl) ?_)))
    refine Qh rfl rfl (by repeat' constructor) (ZK _ (by omega) (by omega)) ?_
    rintro _ _ ⟨rfl, rfl⟩
    simp only [Qr]
    refine Yo rfl rfl rfl (by simp only [ByteArray.size_append, lit1]; omega) ?_
    refine Yo rfl rfl rfl (by simp only [ByteArray.size_append, lit1]; omega) ?_
    refine Qe rfl rfl (WpL.nil (Qb (Qa (Qc rfl rfl (Qe rfl rfl (Qe rfl rfl (WpL.nil (Qi ?_))))))))
    apply RetQ.mk
    ·exact (QB rfl rfl rfl)
    ·exact ⟨_, by simp only [X0, ZE]; rw [hdW, if_neg (by assumption)]; simp [Xh], rfl, rfl⟩
    ·exact Ent.nil _
   ·refine Wp.skip (Qb (Qa (Qc rfl rfl (Qe rfl rfl (Qe rfl rfl (WpL.nil (Qi ?_)))))))
    apply RetQ.mk
    ·exact (QB rfl rfl rfl)
    ·exact ⟨_, by simp only [X0, ZE]; rw [hdW, if_pos (Classical.not_not.1 (by assumption))]; simp [Xh], rfl, rfl⟩
    ·exact Ent.nil _

end Go.Proofs.YtggamdlpiejbiaaGreat
namespace Go.Proofs.YtggamdlpiejbiaaGreat
open Go.RowKit Go.Shelf


/-- The bits of a byte so far. -/
def hv (l : List Int) (j : Nat) : Nat → Int
  | 0 => 0
  | t + 1 => hv l j t * 2 + (l[8 * j + t]?.getD 0)
theorem hv_T {l : List Int} {j t : Nat} (h : 8 * j + t < l.length) : hv l j (t + 1) = hv l j t * 2 + l[8 * j + t] := by
  rw [hv, List.getElem?_eq_getElem h]
  rfl
theorem hv_F {l : List Int} {j t : Nat} (h : l.length ≤ 8 * j + t) : hv l j (t + 1) = hv l j t * 2 := by
  rw [hv, List.getElem?_eq_none h]
  simp
theorem hv_pow {l : List Int} (h : ∀ x ∈ l, Zt x) (j : Nat) : ∀ t, 0 ≤ hv l j t ∧ hv l j t < 2 ^ t
  | 0 => by simp [hv]
  | t + 1 => by
    have ih := hv_pow h j t
    have h2 : (2 : Int) ^ (t + 1) = 2 ^ t * 2 := Int.pow_succ ..
    rcases Nat.lt_or_ge (8 * j + t) l.length with hl | hl
    · rw [hv_T hl, h2]
      have hb := h _ (List.getElem_mem hl)
      unfold Zt at hb
      omega
    · rw [hv_F hl, h2]
      omega
theorem hv_bd {l : List Int} (h : ∀ x ∈ l, Zt x) (j : Nat) {t : Nat} (ht : t ≤ 8) : 0 ≤ hv l j t ∧ hv l j t ≤ 255 := by
  have h1 := hv_pow h j t
  have h2 : (2 : Int) ^ t ≤ 256 := (show ∀ s : Fin 9, (2 : Int) ^ s.val ≤ 256 by decide) ⟨t, by omega⟩
  omega
theorem hv_8 (l : List Int) (j : Nat) : hv l j 8 = XT l j := by
  unfold XT byteOf
  simp only [hv, ← List.getElem?_drop]
  generalize l.drop (8 * j) = ys
  rcases ys with _ | ⟨a, _ | ⟨b, _ | ⟨c, _ | ⟨d, _ | ⟨e, _ | ⟨f, _ | ⟨g, _ | ⟨h, ys⟩⟩⟩⟩⟩⟩⟩⟩ <;> simp only [bw, List.getElem?_cons_zero, List.getElem?_cons_succ, List.getElem?_nil, Option.getD_some, Option.getD_none, List.take_succ_cons, List.take_nil, List.take_zero, Nat.reduceSub, Int.reducePow] <;> omega
theorem packB_end {l : List Int} {k : Nat} (h : l.length ≤ 8 * k) (hk : k ≤ (l.length + 7) / 8) : (List.range k).map (XT l) = Yn l := by rw [Yn, show k = (l.length + 7) / 8 by omega]

theorem rPack07_spec (A0 : HP) (a0 : Option Addr) (c0 : Nat) (row : List Int) (hA : RdsL [A0] a0 (QY row)) (hb : ∀ x ∈ row, Zt x) (h1 : 1 ≤ row.length) (h2 : row.length ≤ 4096) : Fn Tryz.prog 121 #[.slice a0 row.length c0] [A0] (fun v l => ∃ a c, v = .tuple #[.slice a (Yn row).length c, .int .i64 0] ∧ l = [QG 5 1 a c (Yn row).length (Xr (Yn row)), A0]) := by
 refine Qk (vs := [.slice a0 row.length c0]) Tryz.func121 rfl Tryz.ntmps121 rfl (Qb (Qa (Qe rfl rfl (Qe rfl rfl (WpL.nil (Qb (Qb (Qa (Qc rfl rfl (QC rfl rfl (Q7 rfl rfl rfl (Qc rfl rfl ?_))))))))))))
 refine Qy (dj := 11) rfl (decide_eq_false (by omega)) ?_
 refine Qf rfl rfl (Qc rfl rfl (Qf rfl rfl (QC rfl rfl (Qf rfl rfl (Zm rfl rfl rfl (Qs rfl rfl rfl (WpL.nil (Ql rfl (fun h0 => ?_) (fun h0 => ?_)))))))))
 ·exfalso; omega
 ·refine Wp.skip (Qb (Qa (Qe rfl rfl (WpL.nil (Qb (Qb (Qa (Qe rfl rfl (WpL.nil (Wp.block ?_))))))))))
  refine Wp.loopD (σ := KdX) (fun x => x.k ≤ (row.length + 7) / 8 ∧ x.out = (List.range x.k).map (XT row)) [2, 3, 4, 5, 6, 7, 16, 17, 18, 19, 20, 21, 22, 23, 24, 25, 26, 27, 28, 29, 30, 31, 32, 33, 34, 35, 36, 37, 38, 39, 40, 41, 42, 43, 44, 45, 46, 47, 48, 49, 50, 51, 52, 53, 54, 55, 56, 57] (fun x => [(5, .int .i64 (8 * (x.k : Int))), (4, .slice x.a x.out.length x.c)]) (fun x => [QG 5 1 x.a x.c x.out.length (Xr x.out), A0]) (fun x => (row.length + 7) / 8 - x.k) ⟨0, [], none, 0⟩ ?_ (by repeat (first | exact FrLe.nil | refine FrLe.cons rfl ?_)) ?_ ?_
  ·exact ⟨Nat.zero_le _, rfl⟩
  ·exact Ent.own_nil (Ent.refl _)
  ·rintro ⟨k, out, a, c⟩ ⟨hk, ho⟩
   dsimp only at hk ho ⊢
   have hol : out.length = k := by rw [ho]; simp
   refine Qb (Qb (Qa (Qc rfl rfl (Qc rfl rfl (QC rfl rfl (Q7 rfl rfl rfl (WpL.nil (Ql rfl (fun h2 => ?_) (fun h2 => ?_)))))))))
   ·have hlt : 8 * k < row.length := by omega
    refine Wp.skip (Qb (Wp.block ?_))
    refine Qb (Qa (Qe rfl rfl (WpL.nil (Qb (Qb (Qa (Qc rfl rfl (Qe rfl rfl (WpL.nil (Wp.block ?_))))))))))
    refine Wp.loopD (σ := Nat) (fun t => t ≤ 8) [2, 3, 6, 7, 23, 24, 25, 26, 27, 28, 29, 30, 31, 32, 33, 34, 35, 36, 37, 38, 39, 40, 41, 42, 43, 44, 45, 46, 47, 48, 49, 50, 51, 52] (fun t => [(7, .int .i64 (8 * (k : Int) + (t : Int))), (6, .int .i64 (hv row k t))]) (fun t => [QG 5 1 a c out.length (Xr out), A0]) (fun t => 8 - t) 0 ?_ (FrLe.cons (by first | exact congrArg (fun z => some (Value.int .i64 z)) (show 8 * (k : Int) = 8 * (k : Int) + ((0 : Nat) : Int) by omega)) (FrLe.cons rfl FrLe.nil)) ?_ ?_
    ·exact Nat.zero_le _
    ·exact Ent.refl _
    ·rintro t ht
     have hvb := hv_bd hb k ht
     refine Qb (Qb (Qa (Qc rfl rfl (Qc rfl rfl (QD rfl rfl rfl (Qu (by omega) (by omega)) ?_)))))
     refine Q7 rfl rfl rfl (WpL.nil (Ql rfl (fun h4 => ?_) (fun h4 => ?_)))
     ·have ht7 : t < 8 := by omega
      refine Wp.skip (Qb (Wp.block ?_))
      refine Qb (Qa (Qc rfl rfl (XK rfl rfl rfl (Qu (by omega) (by omega)) ?_)))
      refine Qe rfl rfl (WpL.nil (Qb (Qa (Qc rfl rfl (Qc rfl rfl (QC rfl rfl (Q7 rfl rfl rfl (WpL.nil (Ql rfl (fun h5 => ?_) (fun h5 => ?_))))))))))
      ·have hl8 : 8 * k + t < row.length := by omega
       have hbk := hb _ (List.getElem_mem hl8)
       unfold Zt at hbk
       refine Qb (Qb (Qa (Qc rfl rfl (Qc rfl rfl (Q4 (8 * k + t) rfl rfl rfl hA (by exact Take.ent' (by repeat' constructor)) (by omega) (by omega) (by rw [QT]; omega) ?_)))))
       refine Q5 rfl rfl hA (by exact Take.ent' (by repeat' constructor)) (Xi row hl8) ?_
       refine Xn rfl rfl rfl (Qc rfl rfl (QK rfl rfl rfl (fun hg2 => ?_) (fun hg2 => ?_)))
       ·have hg2 := of_decide_eq_true hg2
        refine Qc rfl rfl (Qf rfl rfl (Qc rfl rfl (Qf rfl rfl (Q4 (8 * k + t) rfl rfl rfl hA (by exact Take.ent' (by repeat' constructor)) (by omega) (by omega) (by rw [QT]; omega) ?_))))
        refine Qf rfl rfl (Q5 rfl rfl hA (by exact Take.ent' (by repeat' constructor)) (Xi row hl8) ?_)
        refine Qf rfl rfl (Xn rfl rfl rfl (Qt rfl rfl rfl (WpL.nil (Ql rfl (fun h6 => ?_) (fun h6 => ?_)))))
        ·exfalso; omega
        ·refine Wp.skip (Qa (Qc rfl rfl (Qc rfl rfl (Qc rfl rfl (Q4 (8 * k + t) rfl rfl rfl hA (by exact Take.ent' (by repeat' constructor)) (by omega) (by omega) (by rw [QT]; omega) ?_)))))
         refine Q5 rfl rfl hA (by exact Take.ent' (by repeat' constructor)) (Xi row hl8) ?_
         refine QD rfl rfl rfl (Qu (by omega) (by omega)) ?_
         refine Qe rfl rfl (WpL.nil (Qa (Qc rfl rfl (QD rfl rfl rfl (Qu (by omega) (by omega)) ?_))))
         refine Qe rfl rfl (WpL.nil (Qv (t + 1) ?_ ?_ (by ((repeat (first | exact Top.refl | refine Top.push rfl ?_)); done)) (FrLe.cons (by first | exact congrArg (fun z => some (Value.int .i64 z)) (show 8 * (k : Int) + (t : Int) + 1 = 8 * (k : Int) + ((t + 1 : Nat) : Int) by omega)) (FrLe.cons (by exact congrArg (fun z => some (Value.int .i64 z)) ((hv_T hl8).symm)) FrLe.nil)) ?_))
         ·omega
         ·omega
         ·exact Ent.refl _
       ·have hg2 := of_decide_eq_false hg2
        refine Qd rfl rfl rfl (by decide) (Qd rfl rfl rfl (by decide) (Qd rfl rfl rfl (by decide) (Qd rfl rfl rfl (by decide) (Qs rfl rfl rfl (WpL.nil (QZ rfl (Wp.skip (Qa (Qc rfl rfl (Qc rfl rfl (Qc rfl rfl (Q4 (8 * k + t) rfl rfl rfl hA (by exact Take.ent' (by repeat' constructor)) (by omega) (by omega) (by rw [QT]; omega) ?_))))))))))))
        refine Q5 rfl rfl hA (by exact Take.ent' (by repeat' constructor)) (Xi row hl8) ?_
        refine QD rfl rfl rfl (Qu (by omega) (by omega)) ?_
        refine Qe rfl rfl (WpL.nil (Qa (Qc rfl rfl (QD rfl rfl rfl (Qu (by omega) (by omega)) ?_))))
        refine Qe rfl rfl (WpL.nil (Qv (t + 1) ?_ ?_ (by ((repeat (first | exact Top.refl | refine Top.push rfl ?_)); done)) (FrLe.cons (by first | exact congrArg (fun z => some (Value.int .i64 z)) (show 8 * (k : Int) + (t : Int) + 1 = 8 * (k : Int) + ((t + 1 : Nat) : Int) by omega)) (FrLe.cons (by exact congrArg (fun z => some (Value.int .i64 z)) ((hv_T hl8).symm)) FrLe.nil)) ?_))
        ·omega
        ·omega
        ·exact Ent.refl _
      ·have hl8 : row.length ≤ 8 * k + t := by omega
       refine Wp.skip (Qa (Qc rfl rfl (QD rfl rfl rfl (Qu (by omega) (by omega)) ?_)))
       refine Qe rfl rfl (WpL.nil (Qv (t + 1) ?_ ?_ (by ((repeat (first | exact Top.refl | refine Top.push rfl ?_)); done)) (FrLe.cons (by first | exact congrArg (fun z => some (Value.int .i64 z)) (show 8 * (k : Int) + (t : Int) + 1 = 8 * (k : Int) + ((t + 1 : Nat) : Int) by omega)) (FrLe.cons (by exact congrArg (fun z => some (Value.int .i64 z)) (hv_F hl8).symm) FrLe.nil)) ?_))
       ·omega
       ·omega
       ·exact Ent.refl _
     ·obtain rfl : t = 8 := by omega
      rw [hv_8]
      have hbb := byteAt_bd hb k
      refine QM (Qa (Qc rfl rfl (Qc rfl rfl (Yg rfl Tryz.underlying3 rfl (w_u8 (by omega) (by omega)) ?_))))
      refine Yb rfl rfl rfl rfl ?_
      intro g1
      refine XA rfl rfl rfl (by repeat' constructor) (by rfl) (by rfl) (by rfl) (by rfl) (by omega) (by omega) ?_
      intro a57 c57
      rw [YJ, show out.length + 1 = (out ++ [(XT row k)]).length from by simp]
      refine Qe rfl rfl (WpL.nil (Qa (Qc rfl rfl (QD rfl rfl rfl (Qu (by omega) (by omega)) ?_))))
      refine Qe rfl rfl (WpL.nil (Qv (⟨k + 1, out ++ [XT row k], a57, c57⟩ : KdX) ?_ ?_ (by ((repeat (first | exact Top.refl | refine Top.push rfl ?_)); done)) (FrLe.cons (by first | exact congrArg (fun z => some (Value.int .i64 z)) (show 8 * (k : Int) + 8 = 8 * ((k + 1 : Nat) : Int) by omega)) (FrLe.cons rfl FrLe.nil)) ?_))
      ·exact ⟨by simp only; omega, by simp only; rw [List.range_succ, List.map_append, ho]; rfl⟩
      ·simp only; omega
      ·exact Ent.refl _
   ·have ho2 : out = Yn row := by rw [ho, packB_end (by omega) hk]
    subst ho2
    refine QM (Qb (Qa (Qc rfl rfl (Qe rfl rfl (Qe rfl rfl (WpL.nil (Qi ?_)))))))
    apply RetQ.mk
    ·exact (QB rfl rfl rfl)
    ·exact ⟨a, c, rfl, rfl⟩
    ·exact Ent.refl _

end Go.Proofs.YtggamdlpiejbiaaGreat
namespace Go.Proofs.YtggamdlpiejbiaaGreat
open Go.RowKit Go.Shelf


/-- How far a raw raster's bytes are made. -/
def WrI (K : Int) (W w : Nat) (px : List Int) (i y x : Nat) (out row : List Int) : Prop :=
  (K = 4 ∧ i = y * W + x ∧ x < W ∧ row = ((px.drop (y * W)).take x).flatMap Qn ∧ out = Xg K W w px y) ∨ (K ≠ 4 ∧ row = [] ∧ out = ((px.take i).flatMap Qn).flatMap (Ym w))
theorem WrI.zero {K : Int} {W w : Nat} {px : List Int} (hW : 1 ≤ W) : WrI K W w px 0 0 0 [] [] := by
  by_cases h : K = 4
  · exact .inl ⟨h, by simp, by omega, by simp, by simp [Xg, ZI]⟩
  · exact .inr ⟨h, rfl, by simp⟩
theorem dt_snoc {px : List Int} {y W x : Nat} (h : y * W + x < px.length) : (px.drop (y * W)).take (x + 1) = (px.drop (y * W)).take x ++ [px[y * W + x]] := by
  rw [Yj _ (by rw [List.length_drop]; omega), List.getElem_drop]
theorem WrI.row {K : Int} {W w : Nat} {px : List Int} {i y x : Nat} {out row : List Int} (h : WrI K W w px i y x out row) (hK : K = 4) (hi : i < px.length) : ((px.drop (y * W)).take (x + 1)).flatMap Qn = row ++ Qn px[i] := by
  rcases h with ⟨_, h1, _, h2, _⟩ | ⟨h1, _⟩
  · subst h1
    rw [dt_snoc hi, List.flatMap_append, h2]
    simp
  · exact absurd hK h1
theorem WrI.four {K : Int} {W w : Nat} {px : List Int} {i y x : Nat} {out row : List Int} (h : WrI K W w px i y x out row) (hK : K = 4) (hi : i < px.length) (hx : x + 1 < W) : WrI K W w px (i + 1) y (x + 1) out (row ++ Qn px[i]) := by
  have hr := h.row hK hi
  rcases h with ⟨_, h1, _, h2, h3⟩ | ⟨h1, _⟩
  · exact .inl ⟨hK, by omega, hx, hr.symm, h3⟩
  · exact absurd hK h1
theorem WrI.full {K : Int} {W w : Nat} {px : List Int} {i y x : Nat} {out row : List Int} (h : WrI K W w px i y x out row) (hK : K = 4) (hi : i < px.length) (hx : x + 1 = W) : WrI K W w px (i + 1) (y + 1) 0 (out ++ Yn (row ++ Qn px[i])) [] := by
  have hr := h.row hK hi
  rcases h with ⟨_, h1, _, h2, h3⟩ | ⟨h1, _⟩
  · refine .inl ⟨hK, by rw [Nat.add_mul]; omega, by omega, by simp, ?_⟩
    rw [Za, h3, ← hr, hx]
    unfold Y5
    rw [if_pos hK]
  · exact absurd hK h1
theorem WrI.more {K : Int} {W w : Nat} {px : List Int} {i y x : Nat} {out row : List Int} (h : WrI K W w px i y x out row) (hK : K ≠ 4) (hi : i < px.length) : WrI K W w px (i + 1) y x (out ++ (Qn px[i]).flatMap (Ym w)) [] := by
  rcases h with ⟨h1, _⟩ | ⟨_, _, h2⟩
  · exact absurd h1 hK
  · refine .inr ⟨hK, rfl, ?_⟩
    rw [Yj px hi, List.flatMap_append, List.flatMap_append, h2]
    simp
theorem WrI.rown {K : Int} {W w : Nat} {px : List Int} {i y x : Nat} {out row : List Int} (h : WrI K W w px i y x out row) (hK : K ≠ 4) : row = [] := by
  rcases h with ⟨h1, _⟩ | ⟨_, h2, _⟩
  · exact absurd h1 hK
  · exact h2
theorem wr_flat {K : Int} {W w : Nat} {px : List Int} (hK : K ≠ 4) : ∀ n, Xg K W w px n = ((px.take (n * W)).flatMap Qn).flatMap (Ym w)
  | 0 => by simp [Xg, ZI]
  | n + 1 => by
    rw [Za, wr_flat hK n, Y5, if_neg hK, Nat.add_mul, Nat.one_mul, List.take_add, List.flatMap_append, List.flatMap_append]
theorem WrI.done {K : Int} {W w : Nat} {px : List Int} {i y x H : Nat} {out row : List Int} (h : WrI K W w px i y x out row) (hW : 1 ≤ W) (hi : i = px.length) (hp : px.length = W * H) : out = Xg K W w px H := by
  rcases h with ⟨_, h1, h2, _, h3⟩ | ⟨h1, _, h2⟩
  · have e : y * W + x = H * W := by rw [← h1, hi, hp, Nat.mul_comm]
    have hy : y = H := by
      rcases Nat.lt_trichotomy y H with hl | hl | hl
      · have := Nat.mul_le_mul_right W (show y + 1 ≤ H from hl)
        rw [Nat.add_mul] at this
        omega
      · exact hl
      · have := Nat.mul_le_mul_right W (show H + 1 ≤ y from hl)
        rw [Nat.add_mul] at this
        omega
    rw [h3, hy]
  · rw [wr_flat h1, h2, hi, Nat.mul_comm H W, ← hp]

end Go.Proofs.YtggamdlpiejbiaaGreat
namespace Go.Proofs.YtggamdlpiejbiaaGreat
open Go.RowKit Go.Shelf

theorem rMay09_spec (K W H M : Int) (hM : RawH K W H M) : Fn Tryz.prog 120 #[.agg #[.int .i64 K, .int .i64 W, .int .i64 H, .int .i64 M]] [] (fun v l => v = .bool true ∧ l = []) := by
 refine Qk (vs := [.agg #[.int .i64 K, .int .i64 W, .int .i64 H, .int .i64 M]]) Tryz.func120 rfl Tryz.ntmps120 rfl (Qb (Qa (Q9 rfl rfl rfl ?_)))
 intro gH
 refine Qe rfl rfl (WpL.nil (Qb (Qa ?_)))
 refine QI (vs := [_, _, _, _]) rfl rfl rfl (by rfl) ?_
 refine Qh rfl rfl (by repeat' constructor) (rMay06_spec _ _ _ _) ?_
 rintro _ _ ⟨rfl, rfl⟩
 simp only [Qr]
 refine Qe rfl rfl (WpL.nil (Qb (Qa (Qc rfl rfl (Qc rfl rfl (Qx (dj := 7) rfl (decide_eq_true hM.1) ?_))))))
 refine Qf rfl rfl (Qj (o2 := 0) rfl rfl rfl (Qf rfl rfl (Qo rfl rfl (by rfl) ?_)))
 refine Qf rfl rfl (Zm rfl rfl rfl (Qt rfl rfl rfl (Qe rfl rfl (WpL.nil (Qi ?_)))))
 apply RetQ.mk
 ·exact (Res.one rfl rfl)
 ·exact ⟨congrArg Value.bool (decide_eq_true (by have := hM.2; omega)), rfl⟩
 ·exact Ent.nil _


structure RwX where
  (i y x : Nat) (out row : List Int) (aO : Option Addr) (cO : Nat) (aR : Option Addr) (cR : Nat)
theorem one_list {l : List Int} (h : l.length = 1) (h0 : 0 < l.length) : [l[0]'h0] = l := by
  match l, h with
  | [q], _ => rfl
theorem enc_two {w : Nat} {x : Int} (h : ((w : Nat) : Int) = 2) : Ym w x = [x / 256, x % 256] := by unfold Ym; rw [if_neg (by omega)]
theorem enc_lo {M x : Int} (h : ¬ ((Qg M : Nat) : Int) = 2) (h0 : 0 ≤ x) (h1 : x ≤ M) : Ym (Qg M) x = [x % 256] := by
  unfold Qg at h ⊢
  split at h
  · exact absurd rfl h
  · rename_i hm
    rw [if_neg hm]
    unfold Ym
    rw [if_pos rfl]
    congr 1
    omega

set_option maxHeartbeats 2000000 in
theorem rWrite09_spec (A0 : HP) (a0 : Option Addr) (c0 : Nat) (px : List Int) (hA : RdsL [A0] a0 (Xp px)) (hr : ∀ p ∈ px, 0 ≤ p ∧ p < 18446744073709551616) (K : Int) (W H : Nat) (M : Int) (hR : RawH K (W : Int) (H : Int) M) (hpl : px.length = W * H) (hfit : ∀ p ∈ px, Yp p (QW K) M) (hl : px.length ≤ 1000000) : Fn Tryz.prog 70 #[.slice a0 px.length c0, .agg #[.int .i64 K, .int .i64 (W : Int), .int .i64 (H : Int), .int .i64 M]] [A0] (fun v l => ∃ a c, v = .tuple #[.slice a (Xg K W (Qg M) px H).length c, .int .i64 0] ∧ l = [QG 5 1 a c (Xg K W (Qg M) px H).length (Xr (Xg K W (Qg M) px H)), A0]) := by
 have hM2 := hR.1
 unfold Xv at hM2
 have hcn : ∀ p ∈ px, Can (QW K) M p := fun p hp => can_of_fit (hr p hp).1 (hr p hp).2 (hfit p hp)
 have hpl2 : (px.length : Int) = (W : Int) * (H : Int) := by rw [hpl]; push_cast; rfl
 refine Qk (vs := [.slice a0 px.length c0, .agg #[.int .i64 K, .int .i64 (W : Int), .int .i64 (H : Int), .int .i64 M]]) Tryz.func70 rfl Tryz.ntmps70 rfl (Qb (Qa (Q9 rfl rfl rfl ?_)))
 intro gH
 refine Qe rfl rfl (Qe rfl rfl (WpL.nil (Qb (Qa ?_))))
 refine QI (vs := [_, _, _, _]) rfl rfl rfl (by rfl) ?_
 refine Qh rfl rfl (by repeat' constructor) (rMay09_spec _ _ _ _ hR) ?_
 rintro _ _ ⟨rfl, rfl⟩
 simp only [Qr]
 refine Qe rfl rfl (WpL.nil (Qb (Qb (Qa (Qc rfl rfl (Zq rfl rfl (WpL.nil (Wp.condBF rfl (by decide) (Wp.skip (Qb (Qb (Qa ?_))))))))))))
 refine Qc rfl rfl (QC rfl rfl (Qj (o2 := 1) rfl rfl rfl (Qo rfl rfl (by rfl) ?_)))
 refine Qj (o2 := 2) rfl rfl rfl (Qo rfl rfl (by rfl) ?_)
 refine XK rfl rfl rfl (Qu (by omega) (by omega)) ?_
 rw [← hpl2]
 refine Xn rfl rfl rfl (WpL.nil (Qz rfl (fun hn => hn rfl) ?_))
 refine Wp.skip (Qb (Qa (Qe rfl rfl (WpL.nil (Qb (Qa (Qe rfl rfl (WpL.nil (Qb (Qb (Qa (Qe rfl rfl ?_))))))))))))
 refine WpL.nil (Wp.block ?_)
 refine Wp.loopD (σ := RwX) (fun x => x.i ≤ px.length ∧ WrI K W (Qg M) px x.i x.y x.x x.out x.row ∧ x.out.length + x.row.length ≤ 6 * x.i ∧ (K = 4 → x.row.length = x.x)) [4, 5, 7, 8, 9, 10, 11, 12, 13, 14, 27, 28, 29, 30, 31, 32, 33, 34, 35, 36, 37, 38, 39, 40, 41, 42, 43, 44, 45, 46, 47, 48, 49, 50, 51, 52, 53, 54, 55, 56, 57, 58, 59, 60, 61, 62, 63, 64, 65, 66, 67, 68, 69, 70, 71, 72, 73, 74, 75, 76, 77, 78, 79, 80, 81, 82, 83, 84, 85, 86, 87, 88, 89, 90, 91, 92, 93, 94, 95] (fun x => [(9, .int .i64 (x.i : Int)), (8, .slice x.aR x.row.length x.cR), (7, .slice x.aO x.out.length x.cO)]) (fun x => [QG 5 1 x.aO x.cO x.out.length (Xr x.out), QG 3 1 x.aR x.cR x.row.length (QY x.row), QA gH [.int .i64 K, .int .i64 (W : Int), .int .i64 (H : Int), .int .i64 M] 113, A0]) (fun x => px.length - x.i) ⟨0, 0, 0, [], [], none, 0, none, 0⟩ ?_ (by repeat (first | exact FrLe.nil | refine FrLe.cons rfl ?_)) ?_ ?_
 ·exact ⟨Nat.zero_le _, WrI.zero (by omega), by simp, fun _ => rfl⟩
 ·exact Ent.own_nil (Ent.own_nil (Ent.refl _))
 ·rintro ⟨i, y, x, out, row, aO, cO, aR, cR⟩ ⟨hi, hI, hlen, hrl⟩
  dsimp only at hi hI hlen hrl ⊢
  refine Qb (Qb (Qa (Qc rfl rfl (Qc rfl rfl (QC rfl rfl (Q7 rfl rfl rfl (WpL.nil (Ql rfl (fun h3 => ?_) (fun h3 => ?_)))))))))
  ·have hlt : i < px.length := by omega
   have hpb := hr _ (List.getElem_mem hlt)
   have hcan := hcn _ (List.getElem_mem hlt)
   have hul := XD px[i]
   refine Wp.skip (Qb (Wp.block ?_))
   refine Qb ?_
   apply Q0 mixed [⟨33, _, []⟩, ⟨34, _, []⟩, ⟨35, _, [0, 1]⟩, ⟨36, _, [2]⟩, ⟨37, _, []⟩, ⟨38, _, [4]⟩, ⟨39, _, [3, 5]⟩, ⟨10, _, [6, 0, 1, 2, 3, 4, 5]⟩] rfl
   ·refine AllObs.mk ?_ ?_
    ·exact Qc rfl rfl (Qm rfl)
    refine AllObs.mk ?_ ?_
    ·exact Qc rfl rfl (Qm rfl)
    refine AllObs.mk ?_ ?_
    ·refine Q4 i rfl rfl rfl hA (by exact Take.ent' (by repeat' constructor)) rfl (by omega) (by rw [X1]; omega) ?_
     exact Qm rfl
    refine AllObs.mk ?_ ?_
    ·refine Q5 rfl rfl hA (by exact Take.ent' (by repeat' constructor)) (YP px hlt) ?_
     exact Qm rfl
    refine AllObs.mk ?_ ?_
    ·refine QI (vs := [_, _, _, _]) rfl rfl rfl (by rfl) ?_
     exact Qm rfl
    refine AllObs.mk ?_ ?_
    ·refine Qh rfl rfl (by repeat' constructor) (rFormat_spec _ _ _ _ (by omega) (by omega)) ?_
     rintro _ _ ⟨rfl, rfl⟩
     simp only [Qr]
     exact WpL.nil ⟨rfl, rfl, rfl, by exact Ent.refl _⟩
    refine AllObs.mk ?_ ?_
    ·refine Qh rfl rfl (by repeat' constructor) (rFits_spec _ _ _ hpb.1 hpb.2) ?_
     rintro _ _ ⟨rfl, rfl⟩
     simp only [Qr]
     exact WpL.nil ⟨rfl, rfl, rfl, by exact Ent.refl _⟩
    refine AllObs.mk ?_ ?_
    ·exact Qe rfl rfl (Qm rfl)
    exact AllObs.nil
   ·refine Qb (Qb (Qa (Qc rfl rfl (XN rfl rfl (WpL.nil (Ql rfl (fun h4 => ?_) (fun h4 => ?_)))))))
    ·exfalso; exact absurd (hfit _ (List.getElem_mem hlt)) (by assumption)
    ·refine Wp.skip (Qb (Qa (Qc rfl rfl (Qc rfl rfl (Q4 i rfl rfl rfl hA (by exact Take.ent' (by repeat' constructor)) rfl (by omega) (by rw [X1]; omega) ?_)))))
     refine Q5 rfl rfl hA (by exact Take.ent' (by repeat' constructor)) (YP px hlt) ?_
     refine Qh rfl rfl (by repeat' constructor) (Vh _ hpb.1 hpb.2) ?_
     rintro _ _ ⟨A1, a1, c1, rfl, rfl, hA1, hn1⟩
     simp only [Qr]
     refine Qe rfl rfl (WpL.nil (Qb (Qb (Qa (Qj (o2 := 0) rfl rfl rfl (Qo rfl rfl (by rfl) ?_))))))
     refine QN rfl rfl rfl (WpL.nil (Ql rfl (fun h5 => ?_) (fun h5 => ?_)))
     ·have hM1 : M = 1 := by omega
      have hc4 : QW K = 1 := by rw [h5]; rfl
      have hu1 : (Qn px[i]).length = 1 := by have := hcan.1; omega
      have hu0 : 0 < (Qn px[i]).length := by omega
      have hus : [(Qn px[i])[0]'hu0] = (Qn px[i]) := one_list hu1 hu0
      have hbits : ∀ q ∈ row ++ (Qn px[i]), Zt q := fun q hq => by
       rw [← hI.row h5 hlt] at hq
       obtain ⟨p, hp, hq⟩ := List.mem_flatMap.1 hq
       have h9 := (hcn p (List.mem_of_mem_drop (List.mem_of_mem_take hp))).2.2 q hq
       unfold Zt
       omega
      have hrx := hrl h5
      refine Qb (Qa (Qc rfl rfl (Qc rfl rfl (Q4 0 rfl rfl rfl hA1 (by exact Take.ent' (by repeat' constructor)) rfl (by omega) (by rw [QT]; omega) ?_))))
      refine Q5 rfl rfl hA1 (by exact Take.ent' (by repeat' constructor)) (Xi (Qn px[i]) hu0) ?_
      refine Yb rfl rfl rfl rfl ?_
      intro g2
      refine XA rfl rfl rfl (by repeat' constructor) (by rfl) (by rfl) (by rfl) (by rfl) (by omega) (by omega) ?_
      intro a55 c55
      rw [Yz, show row.length + 1 = (row ++ [((Qn px[i])[0]'hu0)]).length from by simp]
      rw [hus]
      refine Qe rfl rfl (WpL.nil (Qb (Qb (Qa (Qc rfl rfl (QC rfl rfl (Qj (o2 := 1) rfl rfl rfl (Qo rfl rfl (by rfl) ?_))))))))
      refine QN rfl rfl rfl (WpL.nil (Ql rfl (fun h6 => ?_) (fun h6 => ?_)))
      ·have hxW : x + 1 = W := by simp only [List.length_append] at h6; omega
       refine Qb (Qa (Qc rfl rfl (Qh rfl rfl (by repeat' constructor) (rPack07_spec _ a55 c55 (row ++ (Qn px[i])) QE hbits (by simp only [List.length_append]; omega) (by simp only [List.length_append]; omega)) ?_)))
       rintro _ _ ⟨aP, cP, rfl, rfl⟩
       simp only [Qr]
       have hpkl := YS (row ++ (Qn px[i]))
       rw [List.length_append] at hpkl
       refine Qc rfl rfl (QH rfl rfl rfl (QH rfl rfl rfl (Qe rfl rfl (Qe rfl rfl (WpL.nil (Qb (Qa (Qc rfl rfl (Qc rfl rfl (s_appo rfl rfl rfl (by repeat' constructor) (by rfl) (by rfl) (YM _) (by omega) (by omega) ?_))))))))))
       intro a68 c68
       rw [Zy, ← List.length_append]
       refine Qe rfl rfl (WpL.nil (Qa (Qe rfl rfl (WpL.nil (QM (Qa (Qc rfl rfl (QD rfl rfl rfl (Qu (by omega) (by omega)) ?_))))))))
       refine Qe rfl rfl (WpL.nil (Qv (⟨i + 1, y + 1, 0, out ++ Yn (row ++ (Qn px[i])), [], a68, c68, none, 0⟩ : RwX) ?_ ?_ (by ((repeat (first | exact Top.refl | refine Top.push rfl ?_)); done)) (by repeat (first | exact FrLe.nil | refine FrLe.cons rfl ?_)) ?_))
       ·exact ⟨by simp only; omega, hI.full h5 hlt (by omega), by simp only [List.length_append, List.length_nil, YS]; omega, fun _ => rfl⟩
       ·simp only; omega
       ·refine Ent.trans (m := [QG 5 1 a68 c68 (out ++ Yn (row ++ (Qn px[i]))).length (Xr (out ++ Yn (row ++ (Qn px[i])))), QA gH [.int .i64 K, .int .i64 (W : Int), .int .i64 (H : Int), .int .i64 M] 113, A0]) (Take.ent' (by repeat' constructor)) (Ent.cons (Ent.own_nil (Ent.refl _)))
      ·have hxW : x + 1 ≠ W := fun q => h6 (by simp only [List.length_append]; omega)
       have hxl : x < W := by rcases hI with ⟨_, _, q, _⟩ | ⟨q, _⟩; exact q; exact absurd h5 q
       refine Wp.skip (QM (Qa (Qc rfl rfl (QD rfl rfl rfl (Qu (by omega) (by omega)) ?_))))
       refine Qe rfl rfl (WpL.nil (Qv (⟨i + 1, y, x + 1, out, row ++ (Qn px[i]), aO, cO, a55, c55⟩ : RwX) ?_ ?_ (by ((repeat (first | exact Top.refl | refine Top.push rfl ?_)); done)) (by repeat (first | exact FrLe.nil | refine FrLe.cons rfl ?_)) ?_))
       ·exact ⟨by simp only; omega, hI.four h5 hlt (by omega), by simp only [List.length_append]; omega, fun q => by simp only [List.length_append]; have := hrl q; omega⟩
       ·simp only; omega
       ·exact Take.ent' (by repeat' constructor)
     ·have hrn := hI.rown h5
      subst hrn
      refine Wp.skip (Qb (Qa (Qe rfl rfl (WpL.nil (Wp.block ?_)))))
      refine Wp.loopD (σ := KdX) (fun z => z.k ≤ (Qn px[i]).length ∧ z.out = out ++ ((Qn px[i]).take z.k).flatMap (Ym (Qg M)) ∧ z.out.length ≤ out.length + 2 * z.k) [7, 14, 69, 70, 71, 72, 73, 74, 75, 76, 77, 78, 79, 80, 81, 82, 83, 84, 85, 86, 87, 88, 89, 90, 91, 92, 93, 94, 95] (fun z => [(14, .int .i64 (z.k : Int)), (7, .slice z.a z.out.length z.c)]) (fun z => [QG 5 1 z.a z.c z.out.length (Xr z.out), A1, QG 3 1 aR cR 0 (QY []), QA gH [.int .i64 K, .int .i64 (W : Int), .int .i64 (H : Int), .int .i64 M] 113, A0]) (fun z => (Qn px[i]).length - z.k) ⟨0, out, aO, cO⟩ ?_ (by repeat (first | exact FrLe.nil | refine FrLe.cons rfl ?_)) ?_ ?_
      ·exact ⟨Nat.zero_le _, by simp, by simp⟩
      ·exact Take.ent' (by repeat' constructor)
      ·rintro ⟨j, out2, a2, c2⟩ ⟨hj, ho2, hol2⟩
       dsimp only at hj ho2 hol2 ⊢
       refine Qb (Qb (Qa (Qc rfl rfl (Qc rfl rfl (QC rfl rfl (Q7 rfl rfl rfl (WpL.nil (Ql rfl (fun h8 => ?_) (fun h8 => ?_)))))))))
       ·have hlj : j < (Qn px[i]).length := by omega
        have huj := hcan.2.2 _ (List.getElem_mem hlj)
        refine Wp.skip (Qb (Wp.block ?_))
        refine Qb (Qb (Qa ?_))
        refine QI (vs := [_, _, _, _]) rfl rfl rfl (by rfl) ?_
        refine Qh rfl rfl (by repeat' constructor) (rwide_spec _ _ _ _) ?_
        rintro _ _ ⟨rfl, rfl⟩
        simp only [Qr]
        refine QN rfl rfl rfl (WpL.nil (Ql rfl (fun h9 => ?_) (fun h9 => ?_)))
        ·refine Qa (Qc rfl rfl (Qc rfl rfl (Qc rfl rfl (Q4 j rfl rfl rfl hA1 (by exact Take.ent' (by repeat' constructor)) rfl (by omega) (by rw [QT]; omega) ?_))))
         refine Q5 rfl rfl hA1 (by exact Take.ent' (by repeat' constructor)) (Xi (Qn px[i]) hlj) ?_
         refine ZG rfl rfl rfl (by omega) (by omega) (Qu (by omega) (by omega)) ?_
         refine Yg rfl Tryz.underlying3 rfl (w_u8 (by omega) (by omega)) ?_
         refine Yb rfl rfl rfl rfl ?_
         intro g3
         refine XA rfl rfl rfl (by repeat' constructor) (by rfl) (by rfl) (by rfl) (by rfl) (by omega) (by omega) ?_
         intro a86 c86
         rw [YJ, show out2.length + 1 = (out2 ++ [(((Qn px[i])[j]'hlj) / 256)]).length from by simp]
         have hl1 : (out2 ++ [((Qn px[i])[j]'hlj) / 256]).length = out2.length + 1 := by simp
         refine Qe rfl rfl (WpL.nil (Qa (Qc rfl rfl (Qc rfl rfl (Qc rfl rfl (Q4 j rfl rfl rfl hA1 (by exact Take.ent' (by repeat' constructor)) rfl (by omega) (by rw [QT]; omega) ?_))))))
         refine Q5 rfl rfl hA1 (by exact Take.ent' (by repeat' constructor)) (Xi (Qn px[i]) hlj) ?_
         refine YV rfl rfl rfl (by omega) (by omega) ?_
         refine Yg rfl Tryz.underlying3 rfl (w_u8 (by omega) (by omega)) ?_
         refine Yb rfl rfl rfl rfl ?_
         intro g4
         (refine XA rfl rfl rfl (by repeat' constructor) (by rfl) (by rfl) (by rfl) (by rfl) (by omega) (by omega) ?_; intro a95 c95; rw [YJ, show (out2 ++ [((Qn px[i])[j]'hlj) / 256]).length + 1 = ((out2 ++ [((Qn px[i])[j]'hlj) / 256]) ++ [(((Qn px[i])[j]'hlj) % 256)]).length from by simp])
         refine Qe rfl rfl (WpL.nil (Qa (Qc rfl rfl (QD rfl rfl rfl (Qu (by omega) (by omega)) ?_))))
         refine Qe rfl rfl (WpL.nil (Qv (⟨j + 1, out2 ++ [((Qn px[i])[j]'hlj) / 256] ++ [((Qn px[i])[j]'hlj) % 256], a95, c95⟩ : KdX) ?_ ?_ (by ((repeat (first | exact Top.refl | refine Top.push rfl ?_)); done)) (by repeat (first | exact FrLe.nil | refine FrLe.cons rfl ?_)) ?_))
         ·exact ⟨by simp only; omega, by simp only; rw [ho2, ← ZZ hlj, enc_two h9]; simp, by simp only [List.length_append, List.length_cons, List.length_nil]; omega⟩
         ·simp only; omega
         ·exact Ent.refl _
        ·refine Wp.skip (Qa (Qc rfl rfl (Qc rfl rfl (Qc rfl rfl (Q4 j rfl rfl rfl hA1 (by exact Take.ent' (by repeat' constructor)) rfl (by omega) (by rw [QT]; omega) ?_)))))
         refine Q5 rfl rfl hA1 (by exact Take.ent' (by repeat' constructor)) (Xi (Qn px[i]) hlj) ?_
         refine YV rfl rfl rfl (by omega) (by omega) ?_
         refine Yg rfl Tryz.underlying3 rfl (w_u8 (by omega) (by omega)) ?_
         refine Yb rfl rfl rfl rfl ?_
         intro g5
         (refine XA rfl rfl rfl (by repeat' constructor) (by rfl) (by rfl) (by rfl) (by rfl) (by omega) (by omega) ?_; intro a95 c95; rw [YJ, show out2.length + 1 = (out2 ++ [(((Qn px[i])[j]'hlj) % 256)]).length from by simp])
         refine Qe rfl rfl (WpL.nil (Qa (Qc rfl rfl (QD rfl rfl rfl (Qu (by omega) (by omega)) ?_))))
         refine Qe rfl rfl (WpL.nil (Qv (⟨j + 1, out2 ++ [((Qn px[i])[j]'hlj) % 256], a95, c95⟩ : KdX) ?_ ?_ (by ((repeat (first | exact Top.refl | refine Top.push rfl ?_)); done)) (by repeat (first | exact FrLe.nil | refine FrLe.cons rfl ?_)) ?_))
         ·exact ⟨by simp only; omega, by simp only; rw [ho2, ← ZZ hlj, enc_lo h9 huj.1 huj.2]; simp, by simp only [List.length_append, List.length_cons, List.length_nil]; omega⟩
         ·simp only; omega
         ·exact Ent.refl _
       ·have hjE : j = (Qn px[i]).length := by omega
        rw [hjE, List.take_length] at ho2
        refine QM (Qa (Qc rfl rfl (QD rfl rfl rfl (Qu (by omega) (by omega)) ?_)))
        refine Qe rfl rfl (WpL.nil (Qv (⟨i + 1, y, x, out2, [], a2, c2, aR, cR⟩ : RwX) ?_ ?_ (by ((repeat (first | exact Top.refl | refine Top.push rfl ?_)); done)) (by repeat (first | exact FrLe.nil | refine FrLe.cons rfl ?_)) ?_))
        ·exact ⟨by simp only; omega, by simp only; rw [ho2]; exact hI.more h5 hlt, by simp only [List.length_nil]; omega, fun q => absurd q h5⟩
        ·simp only; omega
        ·exact Take.ent' (by repeat' constructor)
  ·have hoE := hI.done (by omega) (show i = px.length by omega) hpl
   subst hoE
   refine QM (Qb (Qa (Qc rfl rfl (Qe rfl rfl (Qe rfl rfl (WpL.nil (Qi ?_)))))))
   apply RetQ.mk
   ·exact (QB rfl rfl rfl)
   ·exact ⟨aO, cO, rfl, rfl⟩
   ·exact Take.ent' (by repeat' constructor)

end Go.Proofs.YtggamdlpiejbiaaGreat
namespace Go.Proofs.YtggamdlpiejbiaaGreat
open Go.RowKit Go.Shelf
/-- A block whose first cells are these. -/
def rdo (g : Nat) (xs : List Value) : HP where
  p w S := (∀ b, S b ↔ b = g) ∧ g < w.heap.size ∧ ∀ (j : Nat) (u : Value), xs[j]? = some u → w.cell? ⟨g, j, none⟩ = some u
  loc := fun ⟨hs, hg, h⟩ hz hb => ⟨hs, Nat.lt_of_lt_of_le hg hz, fun j u hu => by rw [← h j u hu]; exact cell_same (hb _ ((hs _).2 rfl))⟩
  lt := fun ⟨hs, hg, _⟩ b hb => by rw [(hs b).1 hb]; exact hg
theorem RdsL.rdo {g : Nat} {xs : List Value} : RdsL [Go.Proofs.YtggamdlpiejbiaaGreat.rdo g xs] (some ⟨g, 0, none⟩) xs := by
  intro w U ⟨S, ⟨_, _, h⟩, _⟩
  refine ⟨fun _ => rfl, fun ad had j u hu => ?_⟩
  injection had with had
  subst had
  have := h j u hu
  simpa [Addr.add] using (by by_cases hj : j = 0 <;> simpa [Addr.add, hj] using this : w.cell? ((⟨g, 0, none⟩ : Addr).add j) = some u)
theorem bytes_below (w : World) (e : Nat) (s : ByteArray) : Below w.heap.size w (Lib.bytesWorld w e s) := by
  refine ⟨?_, ?_, ?_, ?_, ?_⟩
  · simp [Lib.bytesWorld, World.freeze, World.alloc, World.drew, -World.alloc_eq, -World.drew_eq]
  · simp [Lib.bytesWorld, World.freeze, World.alloc, World.drew, -World.alloc_eq, -World.drew_eq]
  · simp [Lib.bytesWorld, World.freeze, World.alloc, World.drew, -World.alloc_eq, -World.drew_eq]
  · rw [Lib.bytesWorld_size]; omega
  · intro b hb; exact Lib.bytesWorld_at_old w e s b hb
section
variable {P : Program} {n : Cx} {D : List Deferred} {ops : Array Oper} {rest : List Oper} {Q : Post} {fr : Fr} {l : List HP} {ty : Nat} {pos : String} {aft : Array Edge}
theorem out_bytes {w : World} {U : Nat → Prop} (h : Sat w l U) (e : Nat) (s : ByteArray) : Out (rdo w.heap.size (Xr (Xh s)) :: l) U w (Lib.bytesWorld w e s) := by
  have hb := bytes_below w e s
  have h2 : Sat (Lib.bytesWorld w e s) l (fun b => U b ∧ b < w.heap.size) := h.inside.keep hb.size fun b _ hlt => hb.block b hlt
  refine ⟨⟨fun b => b = w.heap.size, ⟨fun _ => Iff.rfl, by rw [Lib.bytesWorld_size]; omega, fun j u hu => ?_⟩, fun b hb => .inr (Nat.le_of_eq hb.symm), h2.mono fun b hb => ⟨.inl hb.1, fun e => ?_⟩⟩, .of_below hb⟩
  · have hj : j < (Xh s).length := by
      have := List.getElem?_eq_some_iff.1 hu
      rw [← Xa]; exact this.1
    rw [Zn _ hj] at hu
    injection hu with hu
    have hj2 : j < s.size := by rw [XS] at hj; exact hj
    rw [← hu, Lib.bytesWorld_cell w e s j hj2]
    rw [bsOf_at hj2]
    simp [List.getD, hj2]
    rfl
  · rw [e] at hb; exact absurd hb.2 (Nat.lt_irrefl _)
theorem s_t2b {d T1 T2 e : Nat} {x : Operand} {s : ByteArray} (hd : Nat.blt d n = true) (h1 : P.underlying T1 = some .string) (h2 : P.underlying T2 = some (.slice e)) (h3 : P.underlying e = some (.int .u8)) (hx : ev fr x = some (.string s))
    (k : ∀ g c, WpL P n D ops rest Q ((d, .slice (some ⟨g, 0, none⟩) (Xh s).length c) :: fr) (rdo g (Xr (Xh s)) :: l)) : WpL P n D ops (⟨some d, .convert T1 T2 x, ty, pos, aft, none⟩ :: rest) Q fr l :=
  XR hd (σ := Nat × Nat) (fun q => .slice (some ⟨q.1, 0, none⟩) (Xh s).length q.2) (fun q => rdo q.1 (Xr (Xh s)) :: l) (fun a w U hh hs => ⟨(w.heap.size, grownCap w s.size 0 e), _, by rw [XS]; simp [execOp, hh.ev hx, Lib.run_convert_string_bytes w T1 T2 e s h1 h2 h3], out_bytes hs e s⟩) fun q => k q.1 q.2
end
end Go.Proofs.YtggamdlpiejbiaaGreat
namespace Go.Proofs.YtggamdlpiejbiaaGreat
open Go.RowKit Go.Shelf


theorem fit_can {p C M : Int} (hf : YF C M) (h : Can C M p) : Yp p C M := ⟨hf, h.1, fun n hn => (h.2.2 n hn).2⟩
theorem kinds_mem {C M k : Int} (h : k ∈ QJ C M) : YF C M ∧ (1 ≤ k ∧ k ≤ 6) ∧ QW k = C ∧ ((k = 1 ∨ k = 4) → M = 1) := by
  unfold QJ at h
  split at h
  · rename_i hf
    obtain ⟨i, hi, rfl⟩ := List.mem_map.1 h
    obtain ⟨h1, h2⟩ := List.mem_filter.1 hi
    unfold kP at h2
    simp only [Bool.and_eq_true, decide_eq_true_eq] at h2
    have h3 := List.mem_range.1 h1
    refine ⟨hf, by omega, ?_, by omega⟩
    have := hf.1
    unfold QW
    split <;> omega
  · simp at h
theorem good_sz {most : Int} {m : Img} (hmo : most ≤ 100) (h : YG most m) : (0 ≤ m.w * m.h ∧ m.w * m.h ≤ 10000) ∧ m.px.length ≤ 10000 := by
  obtain ⟨_, _, hw, hh, hl, _⟩ := h
  have h1 : m.w * m.h ≤ 100 * 100 := Int.mul_le_mul (by omega) (by omega) (by omega) (by omega)
  have h2 : 0 ≤ m.w * m.h := Int.mul_nonneg (by omega) (by omega)
  omega
theorem good_fits {most : Int} {m : Img} {k : Int} (hmo : most ≤ 100) (h : YG most m) (hk : k ∈ QJ m.c m.m) : Xv k m.w m.h m.m ∧ (∀ p ∈ m.px, Yp p (QW k) m.m) ∧ Yq m.c m.m m.w m.h m.px := by
  obtain ⟨hf, hk6, hc, h1⟩ := kinds_mem hk
  have hz := good_sz hmo h
  obtain ⟨_, hm, hw, hh, hl, hp⟩ := h
  refine ⟨⟨hk6, by omega, by omega, hm, h1⟩, fun p hpp => by rw [hc]; exact fit_can hf (hp p hpp).1, ⟨by omega, by omega, by omega⟩, hl, fun p hpp => fit_can hf (hp p hpp).1⟩
/-- An image's bytes. -/
def YY (m : Img) (k : Int) : List Int := hdW k m.w m.h m.m ++ (if k < 4 then wrL k m.w 0 m.px else Xg k m.w.toNat (Qg m.m) m.px m.h.toNat)
theorem hdW_len {K W H M : Int} (hK : K ≤ 6) (hW : W ≤ 100) (hH : H ≤ 100) (hM : M ≤ 65535) : (hdW K W H M).length ≤ 100000 := by
  have h1 := Yl K.toNat
  have h2 := Yl W.toNat
  have h3 := Yl H.toNat
  have h4 := Yl M.toNat
  unfold hdW
  simp only [List.length_append, List.length_cons, List.length_nil]
  split <;> simp only [List.length_append, List.length_cons, List.length_nil] <;> omega

end Go.Proofs.YtggamdlpiejbiaaGreat
namespace Go.Proofs.YtggamdlpiejbiaaGreat
open Go.RowKit Go.Shelf


/-- Images' bytes, joined. -/
def YR : List Img → List Int → List Int
  | m :: ms, k :: ks => YY m k ++ (if k < 4 then [10] else []) ++ YR ms ks
  | _, _ => []
theorem wrI_len {most : Int} {m : Img} {k : Int} (hmo : most ≤ 100) (hg : YG most m) (hk : k ∈ QJ m.c m.m) : (YY m k).length ≤ 3000000 := by
  obtain ⟨hMay, hfit, hfm⟩ := good_fits hmo hg hk
  obtain ⟨hz1, hz2⟩ := good_sz hmo hg
  have hM2 := hMay
  unfold Xv at hM2
  obtain ⟨_, hg2, hgw, hgh, hgl, _⟩ := id hg
  have hz6 := hdW_len (K := k) (W := m.w) (H := m.h) (M := m.m) (by omega) (by omega) (by omega) (by omega)
  have hWn : ((m.w.toNat : Nat) : Int) = m.w := by omega
  have hHn : ((m.h.toNat : Nat) : Int) = m.h := by omega
  have hpl : m.px.length = m.w.toNat * m.h.toNat := by
    have q : ((m.w.toNat * m.h.toNat : Nat) : Int) = m.w * m.h := by rw [Int.natCast_mul, hWn, hHn]
    omega
  have hwl := Yc (K := k) (w := Qg m.m) (Q2 m.m) hpl (fun p hp => by have := Vc (hfit p hp); omega) m.h.toNat (Nat.le_refl _)
  have hsb := XU (K := k) (W := m.w.toNat) (Q2 m.m) (by omega) (by omega)
  have hwl2 : (Xg k m.w.toNat (Qg m.m) m.px m.h.toNat).length ≤ 24576 * 100 := by rw [hwl]; exact Nat.mul_le_mul hsb.2 (by omega)
  have h8 := Vl (K := k) (W := m.w) m.px 0
  unfold YY
  rw [List.length_append]
  split <;> omega

end Go.Proofs.YtggamdlpiejbiaaGreat
namespace Go.Proofs.YtggamdlpiejbiaaGreat
open Go.RowKit Go.Shelf


theorem joinI_bd {most : Int} (hmo : most ≤ 100) : ∀ {ms : List Img} {ks : List Int}, KindsOk ms ks → (∀ m ∈ ms, YG most m) → (YR ms ks).length ≤ ms.length * 3000001
  | [], [], _, _ => by simp [YR]
  | m :: ms, k :: ks, ⟨h1, h2⟩, hg => by
    have ih := joinI_bd hmo h2 fun x hx => hg x (List.mem_cons_of_mem _ hx)
    have hw := wrI_len hmo (hg m (List.mem_cons_self ..)) h1
    simp only [YR, List.length_append, List.length_cons]
    split <;> simp only [List.length_cons, List.length_nil] <;> omega
theorem hdW_bd {K W H M : Int} : ∀ b ∈ hdW K W H M, 0 ≤ b ∧ b ≤ 255 := by
  intro b hb
  unfold hdW at hb
  have hd : ∀ n, b ∈ XG n → 0 ≤ b ∧ b ≤ 255 := fun n h => by have := digs_bd n b h; omega
  simp only [List.mem_append, List.mem_singleton] at hb
  rcases hb with ((((((h | h) | h) | h) | h) | h) | h) | h
  · omega
  · exact hd _ h
  · omega
  · exact hd _ h
  · omega
  · exact hd _ h
  · omega
  · split at h
    · simp at h
    · rcases List.mem_append.1 h with h | h
      · exact hd _ h
      · have := List.mem_singleton.1 h; omega

end Go.Proofs.YtggamdlpiejbiaaGreat
namespace Go.Proofs.YtggamdlpiejbiaaGreat
open Go.RowKit Go.Shelf


theorem wrI_byte {most : Int} {m : Img} {k : Int} (_hmo : most ≤ 100) (hg : YG most m) (hk : k ∈ QJ m.c m.m) : ∀ b ∈ YY m k, 0 ≤ b ∧ b ≤ 255 := by
  intro b hb
  obtain ⟨_, _, hc, h4⟩ := kinds_mem hk
  unfold YY at hb
  rcases List.mem_append.1 hb with h | h
  · exact hdW_bd b h
  · split at h
    · exact wrL_byte _ _ b h
    · exact wrRaw_bd hg.2.1 (fun q => h4 (.inr q)) (fun p hp => by rw [hc]; exact (hg.2.2.2.2.2 p hp).1) b h
theorem joinI_byte {most : Int} (hmo : most ≤ 100) : ∀ {ms : List Img} {ks : List Int}, KindsOk ms ks → (∀ m ∈ ms, YG most m) → ∀ b ∈ YR ms ks, 0 ≤ b ∧ b ≤ 255
  | [], [], _, _ => by simp [YR]
  | m :: ms, k :: ks, ⟨h1, h2⟩, hg => by
    intro b hb
    simp only [YR] at hb
    rcases List.mem_append.1 hb with hb | hb
    · rcases List.mem_append.1 hb with hb | hb
      · exact wrI_byte hmo (hg m (List.mem_cons_self ..)) h1 b hb
      · split at hb
        · have := List.mem_singleton.1 hb; omega
        · simp at hb
    · exact joinI_byte hmo h2 (fun x hx => hg x (List.mem_cons_of_mem _ hx)) b hb
theorem s_bs4 {P : Program} {n : Cx} {D : List Deferred} {ops : Array Oper} {rest : List Oper} {Q : Post} {fr : Fr} {l : List HP} {ty : Nat} {pos : String} {aft : Array Edge} {d t e by_ : Nat} {z v v2 v3 v4 : Value} {x x2 x3 x4 : Operand} (hd : Nat.blt d n = true) [ht : SlT P t e 1 by_ z] (hx : ev fr x = some v) (hx2 : ev fr x2 = some v2) (hx3 : ev fr x3 = some v3) (hx4 : ev fr x4 = some v4) (hz : z.cells.size = 1)
    (hv : v.cells = #[v]) (hv2 : v2.cells = #[v2]) (hv3 : v3.cells = #[v3]) (hv4 : v4.cells = #[v4])
    (k : ∀ g, WpL P n D ops rest Q ((d, .slice (some ⟨g, 0, none⟩) 4 4) :: fr) (QA g [v, v2, v3, v4] e :: l)) : WpL P n D ops (⟨some d, .buildSlice t 4 #[(0, x), (1, x2), (2, x3), (3, x4)], ty, pos, aft, none⟩ :: rest) Q fr l :=
  s_bs (os := [(0, x), (1, x2), (2, x3), (3, x4)]) [v, v2, v3, v4] hd hz rfl (by simp [hv, hv2, hv3, hv4]) (by simp) (fun a hh => by simp [hh.ev hx, hh.ev hx2, hh.ev hx3, hh.ev hx4]) k

end Go.Proofs.YtggamdlpiejbiaaGreat
namespace Go.Proofs.YtggamdlpiejbiaaGreat
open Go.RowKit Go.Shelf


/-- The document's example. -/
def livS (bs : List Int) : PS × Int := bs.foldl (fun q c => ((Xf (QP 4096) (QR 65536) (QS 65535) q.1 c).1, q.2 + ((Xf (QP 4096) (QR 65536) (QS 65535) q.1 c).2.length : Int))) (ps0, 0)
theorem livS_snoc (bs : List Int) (c : Int) : livS (bs ++ [c]) = ((Xf (QP 4096) (QR 65536) (QS 65535) (livS bs).1 c).1, (livS bs).2 + ((Xf (QP 4096) (QR 65536) (QS 65535) (livS bs).1 c).2.length : Int)) := by unfold livS; rw [List.foldl_append]; rfl
theorem livS_I : ∀ (bs : List Int) (_ : ∀ b ∈ bs, 0 ≤ b ∧ b ≤ 255) (n : Nat), n ≤ bs.length → psI (QP 4096) (QR 65536) (QS 65535) n (livS (bs.take n)).1
  | bs, _, 0, _ => psI0 _ _ _
  | bs, hb, n + 1, hn => by
    have ih := livS_I bs hb n (by omega)
    have hc := hb _ (List.getElem_mem (show n < bs.length by omega))
    rw [Yj bs (by omega), livS_snoc]
    exact psPut_I (lim_o 4096 65536 65535) ih hc.1 hc.2
theorem liv_end : (livS (Xh (⟨#[80, 52, 32, 49, 32, 49, 32]⟩ : ByteArray))).2 = 1 ∧ (Xf (QP 4096) (QR 65536) (QS 65535) (livS (Xh (⟨#[80, 52, 32, 49, 32, 49, 32]⟩ : ByteArray))).1 128).2.length = 2 ∧ (Xf (QP 4096) (QR 65536) (QS 65535) (livS (Xh (⟨#[80, 52, 32, 49, 32, 49, 32]⟩ : ByteArray))).1 128).1.imgs = 1 := by decide +kernel

end Go.Proofs.YtggamdlpiejbiaaGreat
namespace Go.Proofs.YtggamdlpiejbiaaGreat
open Go.RowKit Go.Shelf


theorem bsOf_bd (s : ByteArray) : ∀ b ∈ Xh s, 0 ≤ b ∧ b ≤ 255 := by
  intro b hb
  unfold Xh at hb
  obtain ⟨x, _, rfl⟩ := List.mem_map.1 hb
  have := UInt8.toNat_lt x
  omega
theorem liv_n : ∀ k : Fin 8, 0 ≤ (livS ((Xh (⟨#[80, 52, 32, 49, 32, 49, 32]⟩ : ByteArray)).take k.val)).2 ∧ (livS ((Xh (⟨#[80, 52, 32, 49, 32, 49, 32]⟩ : ByteArray)).take k.val)).2 ≤ 100 := by decide +kernel

theorem llives_spec  : Fn Tryz.prog 20 #[] [] (fun v l => v = .bool true ∧ l = []) := by
 have hsz : ((⟨#[80, 52, 32, 49, 32, 49, 32]⟩ : ByteArray)).size = 7 := rfl
 refine Qk (vs := []) Tryz.func20 rfl Tryz.ntmps20 rfl (Qb (Qa (Qe rfl rfl (WpL.nil (Qb (Qa (Qh rfl rfl (by repeat' constructor) (hdAll_spec) ?_)))))))
 rintro _ _ ⟨rfl, rfl⟩
 simp only [Qr]
 refine Qh rfl rfl (by repeat' constructor) (pnNew_spec 4096 65536 65535) ?_
 rintro _ _ ⟨gP, rfl, rfl⟩
 simp only [Qr]
 refine Qe rfl rfl (WpL.nil (Qb (Qb (Qa (Qc rfl rfl (s_peq rfl Tryz.underlying35 rfl rfl (WpL.nil (Wp.condBF rfl rfl (Wp.skip (Qb (Qa (Qe rfl rfl ?_))))))))))))
 refine WpL.nil (Qb (Qa (Qe rfl rfl (WpL.nil (Qb (Qb (Qa (Qe rfl rfl (WpL.nil (Wp.block ?_))))))))))
 refine Wp.loopD (σ := Nat) (fun k => k ≤ 7) [3, 4, 10, 11, 12, 13, 14, 15, 16, 17, 18, 19, 20, 21, 22, 23] (fun k => [(4, .int .i64 (k : Int)), (3, .int .i64 (livS ((Xh (⟨#[80, 52, 32, 49, 32, 49, 32]⟩ : ByteArray)).take k)).2)]) (fun k => [psR gP 4096 65536 65535 (livS ((Xh (⟨#[80, 52, 32, 49, 32, 49, 32]⟩ : ByteArray)).take k)).1]) (fun k => 7 - k) 0 ?_ (by repeat (first | exact FrLe.nil | refine FrLe.cons rfl ?_)) ?_ ?_
 ·exact Nat.zero_le _
 ·exact Ent.refl _
 ·rintro k hk
  have hI := livS_I (Xh (⟨#[80, 52, 32, 49, 32, 49, 32]⟩ : ByteArray)) (bsOf_bd _) k (by rw [XS]; exact hk)
  have hn := liv_n ⟨k, by omega⟩
  dsimp only at hn
  refine Qb (Qb (Qa (Qc rfl rfl (Qc rfl rfl (s_lens rfl Tryz.underlying9 rfl (Q7 rfl rfl rfl (WpL.nil (Ql rfl (fun h2 => ?_) (fun h2 => ?_)))))))))
  ·have hlt : k < 7 := by omega
   have hkb : k < (Xh (⟨#[80, 52, 32, 49, 32, 49, 32]⟩ : ByteArray)).length := hlt
   have hcb := bsOf_bd _ _ (List.getElem_mem hkb)
   have hsn := livS_snoc ((Xh (⟨#[80, 52, 32, 49, 32, 49, 32]⟩ : ByteArray)).take k) (Xh (⟨#[80, 52, 32, 49, 32, 49, 32]⟩ : ByteArray))[k]
   rw [← Yj _ hkb] at hsn
   have hs1 := congrArg (·.1) hsn
   have hs2 := congrArg (·.2) hsn
   dsimp only at hs1 hs2
   have hn2 := liv_n ⟨k + 1, by omega⟩
   dsimp only at hn2
   refine Wp.skip (Qb (Wp.block ?_))
   refine Qa (Qc rfl rfl (Qc rfl rfl (Qc rfl rfl (Qc rfl rfl (s_ixs rfl Tryz.underlying9 rfl rfl (by omega) hlt ?_)))))
   have e20 : ((((⟨#[80, 52, 32, 49, 32, 49, 32]⟩ : ByteArray))[((k : Int)).toNat]'hlt).toNat : Int) = (Xh (⟨#[80, 52, 32, 49, 32, 49, 32]⟩ : ByteArray))[k] := (bsOf_at hlt).symm
   rw [e20]
   refine Qh rfl rfl (by repeat' constructor) (psPut_rep gP 4096 65536 65535 _ _ (by omega) hI _ (by omega) (by omega)) ?_
   rintro _ _ rfl
   simp only [Qr]
   refine WpL.exs (Take1.there Take1.here) fun pv => ?_
   refine WpL.pur Take1.here fun hv => ?_
   obtain ⟨aE, cE, aR, cR⟩ := pv
   dsimp only at hv
   subst hv
   refine QC rfl rfl (QD rfl rfl rfl (Qu (by omega) (by omega)) ?_)
   refine Qe rfl rfl (WpL.nil (Qa (Qc rfl rfl (QD rfl rfl rfl (Qu (by omega) (by omega)) ?_))))
   refine Qe rfl rfl (WpL.nil (Qv (k + 1) ?_ ?_ (by ((repeat (first | exact Top.refl | refine Top.push rfl ?_)); done)) (FrLe.cons rfl (FrLe.cons (by exact congrArg (fun z => some (Value.int .i64 z)) hs2.symm) FrLe.nil)) ?_))
   ·omega
   ·omega
   ·rw [hs1]
    exact Take.ent' (by repeat' constructor)
  ·obtain rfl : k = 7 := by omega
   rw [show (Xh (⟨#[80, 52, 32, 49, 32, 49, 32]⟩ : ByteArray)).take 7 = Xh (⟨#[80, 52, 32, 49, 32, 49, 32]⟩ : ByteArray) from rfl] at *
   refine QM (Qb (Qa (Qc rfl rfl (Qh rfl rfl (by repeat' constructor) (psPut_rep gP 4096 65536 65535 _ _ (by omega) hI _ (by omega) (by omega)) ?_))))
   rintro _ _ rfl
   simp only [Qr]
   refine WpL.exs (Take1.there Take1.here) fun pv => ?_
   refine WpL.pur Take1.here fun hv => ?_
   obtain ⟨aE, cE, aR, cR⟩ := pv
   dsimp only at hv
   subst hv
   refine Qe rfl rfl (WpL.nil (Qb (Qa (Qc rfl rfl (QN rfl rfl rfl (Qc rfl rfl (Qx (dj := 28) rfl (decide_eq_true liv_end.1) ?_)))))))
   refine Qf rfl rfl (Qc rfl rfl (Qf rfl rfl (QC rfl rfl (Qf rfl rfl (QN rfl rfl rfl (Qt rfl rfl rfl (Qc rfl rfl (Qx (dj := 33) rfl (decide_eq_true (by have := liv_end.2.1; omega)) ?_))))))))
   refine Qf rfl rfl (Qc rfl rfl (Qf rfl rfl (Qh rfl rfl (by repeat' constructor) (psImages_rep gP 4096 65536 65535 _) ?_)))
   rintro _ _ ⟨rfl, rfl⟩
   simp only [Qr]
   refine Qf rfl rfl (QN rfl rfl rfl (Qt rfl rfl rfl (Qe rfl rfl (WpL.nil (Qi ?_)))))
   apply RetQ.mk
   ·exact (Res.one rfl rfl)
   ·exact ⟨congrArg Value.bool (decide_eq_true liv_end.2.2), rfl⟩
   ·exact Ent.nil _

end Go.Proofs.YtggamdlpiejbiaaGreat
namespace Go.Proofs.YtggamdlpiejbiaaGreat
open Go.RowKit Go.Shelf


/-- A reader that is told bytes: how it stands, and how YO events it told. -/
def runF (l0 l1 l2 : Int) (bs : List Int) : PS × Int := bs.foldl (fun q c => ((Xf l0 l1 l2 q.1 c).1, q.2 + ((Xf l0 l1 l2 q.1 c).2.length : Int))) (ps0, 0)
theorem runF_snoc (l0 l1 l2 : Int) (bs : List Int) (c : Int) : runF l0 l1 l2 (bs ++ [c]) = ((Xf l0 l1 l2 (runF l0 l1 l2 bs).1 c).1, (runF l0 l1 l2 bs).2 + ((Xf l0 l1 l2 (runF l0 l1 l2 bs).1 c).2.length : Int)) := by unfold runF; rw [List.foldl_append]; rfl
theorem runF_go (l0 l1 l2 : Int) : ∀ (bs : List Int) (s : PS) (n : Int), bs.foldl (fun q c => ((Xf l0 l1 l2 q.1 c).1, q.2 + ((Xf l0 l1 l2 q.1 c).2.length : Int))) (s, n) = ((QL l0 l1 l2 s bs).1, n + ((QL l0 l1 l2 s bs).2.length : Int))
  | [], s, n => by simp [QL]
  | c :: bs, s, n => by
    rw [List.foldl_cons, runF_go l0 l1 l2 bs, Xz]
    simp only [Ye, List.length_append, List.length_map]
    congr 1
    omega
theorem runF_run (l0 l1 l2 : Int) (bs : List Int) : runF l0 l1 l2 bs = ((QL l0 l1 l2 ps0 bs).1, ((QL l0 l1 l2 ps0 bs).2.length : Int)) := by unfold runF; rw [runF_go]; simp
theorem runF_I (a b d : Int) : ∀ (bs : List Int) (_ : ∀ x ∈ bs, 0 ≤ x ∧ x ≤ 255) (n : Nat), n ≤ bs.length → psI (QP a) (QR b) (QS d) n (runF (QP a) (QR b) (QS d) (bs.take n)).1
  | bs, _, 0, _ => psI0 _ _ _
  | bs, hb, n + 1, hn => by
    have ih := runF_I a b d bs hb n (by omega)
    have hc := hb _ (List.getElem_mem (show n < bs.length by omega))
    rw [Yj bs (by omega), runF_snoc]
    exact psPut_I (lim_o a b d) ih hc.1 hc.2
end Go.Proofs.YtggamdlpiejbiaaGreat
