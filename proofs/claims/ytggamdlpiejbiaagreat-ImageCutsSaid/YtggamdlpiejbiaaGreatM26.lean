/- Walks and plain laws, a part of the proof of ImageCuts: every input that the law's guards let in, no condition beside. -/
import Derived.Lib.ConvBytes
import Derived.Laws.StructEq
import Derived.ChangeKeysEq
import Derived.Test.YtggamdlpiejbiaaGreatM25
namespace Go.Proofs.YtggamdlpiejbiaaGreat
open Go.RowKit Go.Shelf


/-- The bits of a byte so far. -/
def hv (l : List Int) (j : Nat) : Nat → Int
  | 0 => 0
  | t + 1 => hv l j t * 2 + (l[8 * j + t]?.getD 0)
theorem hv_T {l : List Int} {j t : Nat} (h : 8 * j + t < l.length) : hv l j (t + 1) = hv l j t * 2 + l[8 * j + t] := by
  rw [hv, List.getElem?_eq_getElem h]
  rfl
theorem hv_F {l : List Int} {j t : Nat} (h : l.length ≤ 8 * j + t) : hv l j (t + 1) = hv l j t * 2 := by
  rw [hv, List.getElem?_eq_none h]
  simp
theorem hv_pow {l : List Int} (h : ∀ x ∈ l, ZD x) (j : Nat) : ∀ t, 0 ≤ hv l j t ∧ hv l j t < 2 ^ t
  | 0 => by simp [hv]
  | t + 1 => by
    have ih := hv_pow h j t
    have h2 : (2 : Int) ^ (t + 1) = 2 ^ t * 2 := Int.pow_succ ..
    rcases Nat.lt_or_ge (8 * j + t) l.length with hl | hl
    · rw [hv_T hl, h2]
      have hb := h _ (List.getElem_mem hl)
      unfold ZD at hb
      omega
    · rw [hv_F hl, h2]
      omega
theorem hv_bd {l : List Int} (h : ∀ x ∈ l, ZD x) (j : Nat) {t : Nat} (ht : t ≤ 8) : 0 ≤ hv l j t ∧ hv l j t ≤ 255 := by
  have h1 := hv_pow h j t
  have h2 : (2 : Int) ^ t ≤ 256 := (show ∀ s : Fin 9, (2 : Int) ^ s.val ≤ 256 by decide) ⟨t, by omega⟩
  omega
theorem hv_8 (l : List Int) (j : Nat) : hv l j 8 = X7 l j := by
  unfold X7 byteOf
  simp only [hv, ← List.getElem?_drop]
  generalize l.drop (8 * j) = ys
  rcases ys with _ | ⟨a, _ | ⟨b, _ | ⟨c, _ | ⟨d, _ | ⟨e, _ | ⟨f, _ | ⟨g, _ | ⟨h, ys⟩⟩⟩⟩⟩⟩⟩⟩ <;> simp only [bw, List.getElem?_cons_zero, List.getElem?_cons_succ, List.getElem?_nil, Option.getD_some, Option.getD_none, List.take_succ_cons, List.take_nil, List.take_zero, Nat.reduceSub, Int.reducePow] <;> omega
theorem packB_end {l : List Int} {k : Nat} (h : l.length ≤ 8 * k) (hk : k ≤ (l.length + 7) / 8) : (List.range k).map (X7 l) = YB l := by rw [YB, show k = (l.length + 7) / 8 by omega]

theorem rPack07_spec (A0 : HP) (a0 : Option Addr) (c0 : Nat) (row : List Int) (hA : RdsL [A0] a0 (Q5 row)) (hb : ∀ x ∈ row, ZD x) (h1 : 1 ≤ row.length) (h2 : row.length ≤ 4096) : Fn Tryz.prog 121 #[.slice a0 row.length c0] [A0] (fun v l => ∃ a c, v = .tuple #[.slice a (YB row).length c, .int .i64 0] ∧ l = [QX 5 1 a c (YB row).length (Xt (YB row)), A0]) := by
 refine Ql (vs := [.slice a0 row.length c0]) Tryz.func121 rfl Tryz.ntmps121 rfl (Qb (Qa (Qd rfl rfl (Qd rfl rfl (WpL.nil (Qb (Qb (Qa (Qc rfl rfl (QO rfl rfl (Q8 rfl rfl rfl (Qc rfl rfl ?_))))))))))))
 refine Qv (dj := 11) rfl (decide_eq_false (by omega)) ?_
 refine Qf rfl rfl (Qc rfl rfl (Qf rfl rfl (QO rfl rfl (Qf rfl rfl (XU rfl rfl rfl (Qt rfl rfl rfl (WpL.nil (Qj rfl (fun h0 => ?_) (fun h0 => ?_)))))))))
 ·exfalso; omega
 ·refine Wp.skip (Qb (Qa (Qd rfl rfl (WpL.nil (Qb (Qb (Qa (Qd rfl rfl (WpL.nil (Wp.block ?_))))))))))
  refine Wp.loopD (σ := KdX) (fun x => x.k ≤ (row.length + 7) / 8 ∧ x.out = (List.range x.k).map (X7 row)) [2, 3, 4, 5, 6, 7, 16, 17, 18, 19, 20, 21, 22, 23, 24, 25, 26, 27, 28, 29, 30, 31, 32, 33, 34, 35, 36, 37, 38, 39, 40, 41, 42, 43, 44, 45, 46, 47, 48, 49, 50, 51, 52, 53, 54, 55, 56, 57] (fun x => [(5, .int .i64 (8 * (x.k : Int))), (4, .slice x.a x.out.length x.c)]) (fun x => [QX 5 1 x.a x.c x.out.length (Xt x.out), A0]) (fun x => (row.length + 7) / 8 - x.k) ⟨0, [], none, 0⟩ ?_ (by repeat (first | exact FrLe.nil | refine FrLe.cons rfl ?_)) ?_ ?_
  ·exact ⟨Nat.zero_le _, rfl⟩
  ·exact Ent.own_nil (Ent.refl _)
  ·rintro ⟨k, out, a, c⟩ ⟨hk, ho⟩
   dsimp only at hk ho ⊢
   have hol : out.length = k := by rw [ho]; simp
   refine Qb (Qb (Qa (Qc rfl rfl (Qc rfl rfl (QO rfl rfl (Q8 rfl rfl rfl (WpL.nil (Qj rfl (fun h2 => ?_) (fun h2 => ?_)))))))))
   ·have hlt : 8 * k < row.length := by omega
    refine Wp.skip (Qb (Wp.block ?_))
    refine Qb (Qa (Qd rfl rfl (WpL.nil (Qb (Qb (Qa (Qc rfl rfl (Qd rfl rfl (WpL.nil (Wp.block ?_))))))))))
    refine Wp.loopD (σ := Nat) (fun t => t ≤ 8) [2, 3, 6, 7, 23, 24, 25, 26, 27, 28, 29, 30, 31, 32, 33, 34, 35, 36, 37, 38, 39, 40, 41, 42, 43, 44, 45, 46, 47, 48, 49, 50, 51, 52] (fun t => [(7, .int .i64 (8 * (k : Int) + (t : Int))), (6, .int .i64 (hv row k t))]) (fun t => [QX 5 1 a c out.length (Xt out), A0]) (fun t => 8 - t) 0 ?_ (FrLe.cons (by first | exact congrArg (fun z => some (Value.int .i64 z)) (show 8 * (k : Int) = 8 * (k : Int) + ((0 : Nat) : Int) by omega)) (FrLe.cons rfl FrLe.nil)) ?_ ?_
    ·exact Nat.zero_le _
    ·exact Ent.refl _
    ·rintro t ht
     have hvb := hv_bd hb k ht
     refine Qb (Qb (Qa (Qc rfl rfl (Qc rfl rfl (QA rfl rfl rfl (Qo (by omega) (by omega)) ?_)))))
     refine Q8 rfl rfl rfl (WpL.nil (Qj rfl (fun h4 => ?_) (fun h4 => ?_)))
     ·have ht7 : t < 8 := by omega
      refine Wp.skip (Qb (Wp.block ?_))
      refine Qb (Qa (Qc rfl rfl (Xv rfl rfl rfl (Qo (by omega) (by omega)) ?_)))
      refine Qd rfl rfl (WpL.nil (Qb (Qa (Qc rfl rfl (Qc rfl rfl (QO rfl rfl (Q8 rfl rfl rfl (WpL.nil (Qj rfl (fun h5 => ?_) (fun h5 => ?_))))))))))
      ·have hl8 : 8 * k + t < row.length := by omega
       have hbk := hb _ (List.getElem_mem hl8)
       unfold ZD at hbk
       refine Qb (Qb (Qa (Qc rfl rfl (Qc rfl rfl (Xg (8 * k + t) rfl rfl rfl hA (by exact Take.ent' (by repeat' constructor)) (by omega) (by omega) (by rw [Xf]; omega) ?_)))))
       refine Xk rfl rfl hA (by exact Take.ent' (by repeat' constructor)) (XA row hl8) ?_
       refine Xq rfl rfl rfl (Qc rfl rfl (QN rfl rfl rfl (fun hg2 => ?_) (fun hg2 => ?_)))
       ·have hg2 := of_decide_eq_true hg2
        refine Qc rfl rfl (Qf rfl rfl (Qc rfl rfl (Qf rfl rfl (Xg (8 * k + t) rfl rfl rfl hA (by exact Take.ent' (by repeat' constructor)) (by omega) (by omega) (by rw [Xf]; omega) ?_))))
        refine Qf rfl rfl (Xk rfl rfl hA (by exact Take.ent' (by repeat' constructor)) (XA row hl8) ?_)
        refine Qf rfl rfl (Xq rfl rfl rfl (Qr rfl rfl rfl (WpL.nil (Qj rfl (fun h6 => ?_) (fun h6 => ?_)))))
        ·exfalso; omega
        ·refine Wp.skip (Qa (Qc rfl rfl (Qc rfl rfl (Qc rfl rfl (Xg (8 * k + t) rfl rfl rfl hA (by exact Take.ent' (by repeat' constructor)) (by omega) (by omega) (by rw [Xf]; omega) ?_)))))
         refine Xk rfl rfl hA (by exact Take.ent' (by repeat' constructor)) (XA row hl8) ?_
         refine QA rfl rfl rfl (Qo (by omega) (by omega)) ?_
         refine Qd rfl rfl (WpL.nil (Qa (Qc rfl rfl (QA rfl rfl rfl (Qo (by omega) (by omega)) ?_))))
         refine Qd rfl rfl (WpL.nil (Qq (t + 1) ?_ ?_ (by ((repeat (first | exact Top.refl | refine Top.push rfl ?_)); done)) (FrLe.cons (by first | exact congrArg (fun z => some (Value.int .i64 z)) (show 8 * (k : Int) + (t : Int) + 1 = 8 * (k : Int) + ((t + 1 : Nat) : Int) by omega)) (FrLe.cons (by exact congrArg (fun z => some (Value.int .i64 z)) ((hv_T hl8).symm)) FrLe.nil)) ?_))
         ·omega
         ·omega
         ·exact Ent.refl _
       ·have hg2 := of_decide_eq_false hg2
        refine Qe rfl rfl rfl (by decide) (Qe rfl rfl rfl (by decide) (Qe rfl rfl rfl (by decide) (Qe rfl rfl rfl (by decide) (Qt rfl rfl rfl (WpL.nil (QW rfl (Wp.skip (Qa (Qc rfl rfl (Qc rfl rfl (Qc rfl rfl (Xg (8 * k + t) rfl rfl rfl hA (by exact Take.ent' (by repeat' constructor)) (by omega) (by omega) (by rw [Xf]; omega) ?_))))))))))))
        refine Xk rfl rfl hA (by exact Take.ent' (by repeat' constructor)) (XA row hl8) ?_
        refine QA rfl rfl rfl (Qo (by omega) (by omega)) ?_
        refine Qd rfl rfl (WpL.nil (Qa (Qc rfl rfl (QA rfl rfl rfl (Qo (by omega) (by omega)) ?_))))
        refine Qd rfl rfl (WpL.nil (Qq (t + 1) ?_ ?_ (by ((repeat (first | exact Top.refl | refine Top.push rfl ?_)); done)) (FrLe.cons (by first | exact congrArg (fun z => some (Value.int .i64 z)) (show 8 * (k : Int) + (t : Int) + 1 = 8 * (k : Int) + ((t + 1 : Nat) : Int) by omega)) (FrLe.cons (by exact congrArg (fun z => some (Value.int .i64 z)) ((hv_T hl8).symm)) FrLe.nil)) ?_))
        ·omega
        ·omega
        ·exact Ent.refl _
      ·have hl8 : row.length ≤ 8 * k + t := by omega
       refine Wp.skip (Qa (Qc rfl rfl (QA rfl rfl rfl (Qo (by omega) (by omega)) ?_)))
       refine Qd rfl rfl (WpL.nil (Qq (t + 1) ?_ ?_ (by ((repeat (first | exact Top.refl | refine Top.push rfl ?_)); done)) (FrLe.cons (by first | exact congrArg (fun z => some (Value.int .i64 z)) (show 8 * (k : Int) + (t : Int) + 1 = 8 * (k : Int) + ((t + 1 : Nat) : Int) by omega)) (FrLe.cons (by exact congrArg (fun z => some (Value.int .i64 z)) (hv_F hl8).symm) FrLe.nil)) ?_))
       ·omega
       ·omega
       ·exact Ent.refl _
     ·obtain rfl : t = 8 := by omega
      rw [hv_8]
      have hbb := byteAt_bd hb k
      refine QP (Qa (Qc rfl rfl (Qc rfl rfl (XY rfl Tryz.underlying3 rfl (w_u8 (by omega) (by omega)) ?_))))
      refine X4 rfl rfl rfl rfl ?_
      intro g1
      refine XN rfl rfl rfl (by repeat' constructor) (by rfl) (by rfl) (by rfl) (by rfl) (by omega) (by omega) ?_
      intro a57 c57
      rw [ZT, show out.length + 1 = (out ++ [(X7 row k)]).length from by simp]
      refine Qd rfl rfl (WpL.nil (Qa (Qc rfl rfl (QA rfl rfl rfl (Qo (by omega) (by omega)) ?_))))
      refine Qd rfl rfl (WpL.nil (Qq (⟨k + 1, out ++ [X7 row k], a57, c57⟩ : KdX) ?_ ?_ (by ((repeat (first | exact Top.refl | refine Top.push rfl ?_)); done)) (FrLe.cons (by first | exact congrArg (fun z => some (Value.int .i64 z)) (show 8 * (k : Int) + 8 = 8 * ((k + 1 : Nat) : Int) by omega)) (FrLe.cons rfl FrLe.nil)) ?_))
      ·exact ⟨by simp only; omega, by simp only; rw [List.range_succ, List.map_append, ho]; rfl⟩
      ·simp only; omega
      ·exact Ent.refl _
   ·have ho2 : out = YB row := by rw [ho, packB_end (by omega) hk]
    subst ho2
    refine QP (Qb (Qa (Qc rfl rfl (Qd rfl rfl (Qd rfl rfl (WpL.nil (Qh ?_)))))))
    apply RetQ.mk
    ·exact (QM rfl rfl rfl)
    ·exact ⟨a, c, rfl, rfl⟩
    ·exact Ent.refl _

end Go.Proofs.YtggamdlpiejbiaaGreat
namespace Go.Proofs.YtggamdlpiejbiaaGreat
open Go.RowKit Go.Shelf


/-- How far a raw raster's bytes are made. -/
def WrI (K : Int) (W w : Nat) (px : List Int) (i y x : Nat) (out row : List Int) : Prop :=
  (K = 4 ∧ i = y * W + x ∧ x < W ∧ row = ((px.drop (y * W)).take x).flatMap Qp ∧ out = Xl K W w px y) ∨ (K ≠ 4 ∧ row = [] ∧ out = ((px.take i).flatMap Qp).flatMap (YA w))
theorem WrI.zero {K : Int} {W w : Nat} {px : List Int} (hW : 1 ≤ W) : WrI K W w px 0 0 0 [] [] := by
  by_cases h : K = 4
  · exact .inl ⟨h, by simp, by omega, by simp, by simp [Xl, ZU]⟩
  · exact .inr ⟨h, rfl, by simp⟩
theorem dt_snoc {px : List Int} {y W x : Nat} (h : y * W + x < px.length) : (px.drop (y * W)).take (x + 1) = (px.drop (y * W)).take x ++ [px[y * W + x]] := by
  rw [VG _ (by rw [List.length_drop]; omega), List.getElem_drop]
theorem WrI.row {K : Int} {W w : Nat} {px : List Int} {i y x : Nat} {out row : List Int} (h : WrI K W w px i y x out row) (hK : K = 4) (hi : i < px.length) : ((px.drop (y * W)).take (x + 1)).flatMap Qp = row ++ Qp px[i] := by
  rcases h with ⟨_, h1, _, h2, _⟩ | ⟨h1, _⟩
  · subst h1
    rw [dt_snoc hi, List.flatMap_append, h2]
    simp
  · exact absurd hK h1
theorem WrI.four {K : Int} {W w : Nat} {px : List Int} {i y x : Nat} {out row : List Int} (h : WrI K W w px i y x out row) (hK : K = 4) (hi : i < px.length) (hx : x + 1 < W) : WrI K W w px (i + 1) y (x + 1) out (row ++ Qp px[i]) := by
  have hr := h.row hK hi
  rcases h with ⟨_, h1, _, h2, h3⟩ | ⟨h1, _⟩
  · exact .inl ⟨hK, by omega, hx, hr.symm, h3⟩
  · exact absurd hK h1
theorem WrI.full {K : Int} {W w : Nat} {px : List Int} {i y x : Nat} {out row : List Int} (h : WrI K W w px i y x out row) (hK : K = 4) (hi : i < px.length) (hx : x + 1 = W) : WrI K W w px (i + 1) (y + 1) 0 (out ++ YB (row ++ Qp px[i])) [] := by
  have hr := h.row hK hi
  rcases h with ⟨_, h1, _, h2, h3⟩ | ⟨h1, _⟩
  · refine .inl ⟨hK, by rw [Nat.add_mul]; omega, by omega, by simp, ?_⟩
    rw [Zt, h3, ← hr, hx]
    unfold Zn
    rw [if_pos hK]
  · exact absurd hK h1
theorem WrI.more {K : Int} {W w : Nat} {px : List Int} {i y x : Nat} {out row : List Int} (h : WrI K W w px i y x out row) (hK : K ≠ 4) (hi : i < px.length) : WrI K W w px (i + 1) y x (out ++ (Qp px[i]).flatMap (YA w)) [] := by
  rcases h with ⟨h1, _⟩ | ⟨_, _, h2⟩
  · exact absurd h1 hK
  · refine .inr ⟨hK, rfl, ?_⟩
    rw [VG px hi, List.flatMap_append, List.flatMap_append, h2]
    simp
theorem WrI.rown {K : Int} {W w : Nat} {px : List Int} {i y x : Nat} {out row : List Int} (h : WrI K W w px i y x out row) (hK : K ≠ 4) : row = [] := by
  rcases h with ⟨h1, _⟩ | ⟨_, h2, _⟩
  · exact absurd h1 hK
  · exact h2
theorem wr_flat {K : Int} {W w : Nat} {px : List Int} (hK : K ≠ 4) : ∀ n, Xl K W w px n = ((px.take (n * W)).flatMap Qp).flatMap (YA w)
  | 0 => by simp [Xl, ZU]
  | n + 1 => by
    rw [Zt, wr_flat hK n, Zn, if_neg hK, Nat.add_mul, Nat.one_mul, List.take_add, List.flatMap_append, List.flatMap_append]
theorem WrI.done {K : Int} {W w : Nat} {px : List Int} {i y x H : Nat} {out row : List Int} (h : WrI K W w px i y x out row) (hW : 1 ≤ W) (hi : i = px.length) (hp : px.length = W * H) : out = Xl K W w px H := by
  rcases h with ⟨_, h1, h2, _, h3⟩ | ⟨h1, _, h2⟩
  · have e : y * W + x = H * W := by rw [← h1, hi, hp, Nat.mul_comm]
    have hy : y = H := by
      rcases Nat.lt_trichotomy y H with hl | hl | hl
      · have := Nat.mul_le_mul_right W (show y + 1 ≤ H from hl)
        rw [Nat.add_mul] at this
        omega
      · exact hl
      · have := Nat.mul_le_mul_right W (show H + 1 ≤ y from hl)
        rw [Nat.add_mul] at this
        omega
    rw [h3, hy]
  · rw [wr_flat h1, h2, hi, Nat.mul_comm H W, ← hp]

end Go.Proofs.YtggamdlpiejbiaaGreat
namespace Go.Proofs.YtggamdlpiejbiaaGreat
open Go.RowKit Go.Shelf

theorem rMay09_spec (K W H M : Int) (hM : RawH K W H M) : Fn Tryz.prog 120 #[.agg #[.int .i64 K, .int .i64 W, .int .i64 H, .int .i64 M]] [] (fun v l => v = .bool true ∧ l = []) := by
 refine Ql (vs := [.agg #[.int .i64 K, .int .i64 W, .int .i64 H, .int .i64 M]]) Tryz.func120 rfl Tryz.ntmps120 rfl (Qb (Qa (Q2 rfl rfl rfl ?_)))
 intro gH
 refine Qd rfl rfl (WpL.nil (Qb (Qa ?_)))
 refine Qw (vs := [_, _, _, _]) rfl rfl rfl (by rfl) ?_
 refine Qi rfl rfl (by repeat' constructor) (rMay06_spec _ _ _ _) ?_
 rintro _ _ ⟨rfl, rfl⟩
 simp only [Qs]
 refine Qd rfl rfl (WpL.nil (Qb (Qa (Qc rfl rfl (Qc rfl rfl (Qx (dj := 7) rfl (decide_eq_true hM.1) ?_))))))
 refine Qf rfl rfl (Qk (o2 := 0) rfl rfl rfl (Qf rfl rfl (Qn rfl rfl (by rfl) ?_)))
 refine Qf rfl rfl (XU rfl rfl rfl (Qr rfl rfl rfl (Qd rfl rfl (WpL.nil (Qh ?_)))))
 apply RetQ.mk
 ·exact (Res.one rfl rfl)
 ·exact ⟨congrArg Value.bool (decide_eq_true (by have := hM.2; omega)), rfl⟩
 ·exact Ent.nil _


structure RwX where
  (i y x : Nat) (out row : List Int) (aO : Option Addr) (cO : Nat) (aR : Option Addr) (cR : Nat)
theorem one_list {l : List Int} (h : l.length = 1) (h0 : 0 < l.length) : [l[0]'h0] = l := by
  match l, h with
  | [q], _ => rfl
theorem enc_two {w : Nat} {x : Int} (h : ((w : Nat) : Int) = 2) : YA w x = [x / 256, x % 256] := by unfold YA; rw [if_neg (by omega)]
theorem enc_lo {M x : Int} (h : ¬ ((Qg M : Nat) : Int) = 2) (h0 : 0 ≤ x) (h1 : x ≤ M) : YA (Qg M) x = [x % 256] := by
  unfold Qg at h ⊢
  split at h
  · exact absurd rfl h
  · rename_i hm
    rw [if_neg hm]
    unfold YA
    rw [if_pos rfl]
    congr 1
    omega

set_option maxHeartbeats 2000000 in
theorem rWrite09_spec (A0 : HP) (a0 : Option Addr) (c0 : Nat) (px : List Int) (hA : RdsL [A0] a0 (XQ px)) (hr : ∀ p ∈ px, 0 ≤ p ∧ p < 18446744073709551616) (K : Int) (W H : Nat) (M : Int) (hR : RawH K (W : Int) (H : Int) M) (hpl : px.length = W * H) (hfit : ∀ p ∈ px, Yw p (QR K) M) (hl : px.length ≤ 1000000) : Fn Tryz.prog 70 #[.slice a0 px.length c0, .agg #[.int .i64 K, .int .i64 (W : Int), .int .i64 (H : Int), .int .i64 M]] [A0] (fun v l => ∃ a c, v = .tuple #[.slice a (Xl K W (Qg M) px H).length c, .int .i64 0] ∧ l = [QX 5 1 a c (Xl K W (Qg M) px H).length (Xt (Xl K W (Qg M) px H)), A0]) := by
 have hM2 := hR.1
 unfold XG at hM2
 have hcn : ∀ p ∈ px, Can (QR K) M p := fun p hp => can_of_fit (hr p hp).1 (hr p hp).2 (hfit p hp)
 have hpl2 : (px.length : Int) = (W : Int) * (H : Int) := by rw [hpl]; push_cast; rfl
 refine Ql (vs := [.slice a0 px.length c0, .agg #[.int .i64 K, .int .i64 (W : Int), .int .i64 (H : Int), .int .i64 M]]) Tryz.func70 rfl Tryz.ntmps70 rfl (Qb (Qa (Q2 rfl rfl rfl ?_)))
 intro gH
 refine Qd rfl rfl (Qd rfl rfl (WpL.nil (Qb (Qa ?_))))
 refine Qw (vs := [_, _, _, _]) rfl rfl rfl (by rfl) ?_
 refine Qi rfl rfl (by repeat' constructor) (rMay09_spec _ _ _ _ hR) ?_
 rintro _ _ ⟨rfl, rfl⟩
 simp only [Qs]
 refine Qd rfl rfl (WpL.nil (Qb (Qb (Qa (Qc rfl rfl (Zp rfl rfl (WpL.nil (Wp.condBF rfl (by decide) (Wp.skip (Qb (Qb (Qa ?_))))))))))))
 refine Qc rfl rfl (QO rfl rfl (Qk (o2 := 1) rfl rfl rfl (Qn rfl rfl (by rfl) ?_)))
 refine Qk (o2 := 2) rfl rfl rfl (Qn rfl rfl (by rfl) ?_)
 refine Xv rfl rfl rfl (Qo (by omega) (by omega)) ?_
 rw [← hpl2]
 refine Xq rfl rfl rfl (WpL.nil (Qz rfl (fun hn => hn rfl) ?_))
 refine Wp.skip (Qb (Qa (Qd rfl rfl (WpL.nil (Qb (Qa (Qd rfl rfl (WpL.nil (Qb (Qb (Qa (Qd rfl rfl ?_))))))))))))
 refine WpL.nil (Wp.block ?_)
 refine Wp.loopD (σ := RwX) (fun x => x.i ≤ px.length ∧ WrI K W (Qg M) px x.i x.y x.x x.out x.row ∧ x.out.length + x.row.length ≤ 6 * x.i ∧ (K = 4 → x.row.length = x.x)) [4, 5, 7, 8, 9, 10, 11, 12, 13, 14, 27, 28, 29, 30, 31, 32, 33, 34, 35, 36, 37, 38, 39, 40, 41, 42, 43, 44, 45, 46, 47, 48, 49, 50, 51, 52, 53, 54, 55, 56, 57, 58, 59, 60, 61, 62, 63, 64, 65, 66, 67, 68, 69, 70, 71, 72, 73, 74, 75, 76, 77, 78, 79, 80, 81, 82, 83, 84, 85, 86, 87, 88, 89, 90, 91, 92, 93, 94, 95] (fun x => [(9, .int .i64 (x.i : Int)), (8, .slice x.aR x.row.length x.cR), (7, .slice x.aO x.out.length x.cO)]) (fun x => [QX 5 1 x.aO x.cO x.out.length (Xt x.out), QX 3 1 x.aR x.cR x.row.length (Q5 x.row), QK gH [.int .i64 K, .int .i64 (W : Int), .int .i64 (H : Int), .int .i64 M] 113, A0]) (fun x => px.length - x.i) ⟨0, 0, 0, [], [], none, 0, none, 0⟩ ?_ (by repeat (first | exact FrLe.nil | refine FrLe.cons rfl ?_)) ?_ ?_
 ·exact ⟨Nat.zero_le _, WrI.zero (by omega), by simp, fun _ => rfl⟩
 ·exact Ent.own_nil (Ent.own_nil (Ent.refl _))
 ·rintro ⟨i, y, x, out, row, aO, cO, aR, cR⟩ ⟨hi, hI, hlen, hrl⟩
  dsimp only at hi hI hlen hrl ⊢
  refine Qb (Qb (Qa (Qc rfl rfl (Qc rfl rfl (QO rfl rfl (Q8 rfl rfl rfl (WpL.nil (Qj rfl (fun h3 => ?_) (fun h3 => ?_)))))))))
  ·have hlt : i < px.length := by omega
   have hpb := hr _ (List.getElem_mem hlt)
   have hcan := hcn _ (List.getElem_mem hlt)
   have hul := XL px[i]
   refine Wp.skip (Qb (Wp.block ?_))
   refine Qb ?_
   apply Q9 mixed [⟨33, _, []⟩, ⟨34, _, []⟩, ⟨35, _, [0, 1]⟩, ⟨36, _, [2]⟩, ⟨37, _, []⟩, ⟨38, _, [4]⟩, ⟨39, _, [3, 5]⟩, ⟨10, _, [6, 0, 1, 2, 3, 4, 5]⟩] rfl
   ·refine AllObs.mk ?_ ?_
    ·exact Qc rfl rfl (Qm rfl)
    refine AllObs.mk ?_ ?_
    ·exact Qc rfl rfl (Qm rfl)
    refine AllObs.mk ?_ ?_
    ·refine Xg i rfl rfl rfl hA (by exact Take.ent' (by repeat' constructor)) rfl (by omega) (by rw [Yh]; omega) ?_
     exact Qm rfl
    refine AllObs.mk ?_ ?_
    ·refine Xk rfl rfl hA (by exact Take.ent' (by repeat' constructor)) (Y6 px hlt) ?_
     exact Qm rfl
    refine AllObs.mk ?_ ?_
    ·refine Qw (vs := [_, _, _, _]) rfl rfl rfl (by rfl) ?_
     exact Qm rfl
    refine AllObs.mk ?_ ?_
    ·refine Qi rfl rfl (by repeat' constructor) (ZF _ _ _ _ (by omega) (by omega)) ?_
     rintro _ _ ⟨rfl, rfl⟩
     simp only [Qs]
     exact WpL.nil ⟨rfl, rfl, rfl, by exact Ent.refl _⟩
    refine AllObs.mk ?_ ?_
    ·refine Qi rfl rfl (by repeat' constructor) (rFits_spec _ _ _ hpb.1 hpb.2) ?_
     rintro _ _ ⟨rfl, rfl⟩
     simp only [Qs]
     exact WpL.nil ⟨rfl, rfl, rfl, by exact Ent.refl _⟩
    refine AllObs.mk ?_ ?_
    ·exact Qd rfl rfl (Qm rfl)
    exact AllObs.nil
   ·refine Qb (Qb (Qa (Qc rfl rfl (XV rfl rfl (WpL.nil (Qj rfl (fun h4 => ?_) (fun h4 => ?_)))))))
    ·exfalso; exact absurd (hfit _ (List.getElem_mem hlt)) (by assumption)
    ·refine Wp.skip (Qb (Qa (Qc rfl rfl (Qc rfl rfl (Xg i rfl rfl rfl hA (by exact Take.ent' (by repeat' constructor)) rfl (by omega) (by rw [Yh]; omega) ?_)))))
     refine Xk rfl rfl hA (by exact Take.ent' (by repeat' constructor)) (Y6 px hlt) ?_
     refine Qi rfl rfl (by repeat' constructor) (VA _ hpb.1 hpb.2) ?_
     rintro _ _ ⟨A1, a1, c1, rfl, rfl, hA1, hn1⟩
     simp only [Qs]
     refine Qd rfl rfl (WpL.nil (Qb (Qb (Qa (Qk (o2 := 0) rfl rfl rfl (Qn rfl rfl (by rfl) ?_))))))
     refine QH rfl rfl rfl (WpL.nil (Qj rfl (fun h5 => ?_) (fun h5 => ?_)))
     ·have hM1 : M = 1 := by omega
      have hc4 : QR K = 1 := by rw [h5]; rfl
      have hu1 : (Qp px[i]).length = 1 := by have := hcan.1; omega
      have hu0 : 0 < (Qp px[i]).length := by omega
      have hus : [(Qp px[i])[0]'hu0] = (Qp px[i]) := one_list hu1 hu0
      have hbits : ∀ q ∈ row ++ (Qp px[i]), ZD q := fun q hq => by
       rw [← hI.row h5 hlt] at hq
       obtain ⟨p, hp, hq⟩ := List.mem_flatMap.1 hq
       have h9 := (hcn p (List.mem_of_mem_drop (List.mem_of_mem_take hp))).2.2 q hq
       unfold ZD
       omega
      have hrx := hrl h5
      refine Qb (Qa (Qc rfl rfl (Qc rfl rfl (Xg 0 rfl rfl rfl hA1 (by exact Take.ent' (by repeat' constructor)) rfl (by omega) (by rw [Xf]; omega) ?_))))
      refine Xk rfl rfl hA1 (by exact Take.ent' (by repeat' constructor)) (XA (Qp px[i]) hu0) ?_
      refine X4 rfl rfl rfl rfl ?_
      intro g2
      refine XN rfl rfl rfl (by repeat' constructor) (by rfl) (by rfl) (by rfl) (by rfl) (by omega) (by omega) ?_
      intro a55 c55
      rw [Ym, show row.length + 1 = (row ++ [((Qp px[i])[0]'hu0)]).length from by simp]
      rw [hus]
      refine Qd rfl rfl (WpL.nil (Qb (Qb (Qa (Qc rfl rfl (QO rfl rfl (Qk (o2 := 1) rfl rfl rfl (Qn rfl rfl (by rfl) ?_))))))))
      refine QH rfl rfl rfl (WpL.nil (Qj rfl (fun h6 => ?_) (fun h6 => ?_)))
      ·have hxW : x + 1 = W := by simp only [List.length_append] at h6; omega
       refine Qb (Qa (Qc rfl rfl (Qi rfl rfl (by repeat' constructor) (rPack07_spec _ a55 c55 (row ++ (Qp px[i])) Q0 hbits (by simp only [List.length_append]; omega) (by simp only [List.length_append]; omega)) ?_)))
       rintro _ _ ⟨aP, cP, rfl, rfl⟩
       simp only [Qs]
       have hpkl := Zb (row ++ (Qp px[i]))
       rw [List.length_append] at hpkl
       refine Qc rfl rfl (QB rfl rfl rfl (QB rfl rfl rfl (Qd rfl rfl (Qd rfl rfl (WpL.nil (Qb (Qa (Qc rfl rfl (Qc rfl rfl (ZR rfl rfl rfl (by repeat' constructor) (by rfl) (by rfl) (Ve _) (by omega) (by omega) ?_))))))))))
       intro a68 c68
       rw [u8s_app, ← List.length_append]
       refine Qd rfl rfl (WpL.nil (Qa (Qd rfl rfl (WpL.nil (QP (Qa (Qc rfl rfl (QA rfl rfl rfl (Qo (by omega) (by omega)) ?_))))))))
       refine Qd rfl rfl (WpL.nil (Qq (⟨i + 1, y + 1, 0, out ++ YB (row ++ (Qp px[i])), [], a68, c68, none, 0⟩ : RwX) ?_ ?_ (by ((repeat (first | exact Top.refl | refine Top.push rfl ?_)); done)) (by repeat (first | exact FrLe.nil | refine FrLe.cons rfl ?_)) ?_))
       ·exact ⟨by simp only; omega, hI.full h5 hlt (by omega), by simp only [List.length_append, List.length_nil, Zb]; omega, fun _ => rfl⟩
       ·simp only; omega
       ·refine Ent.trans (m := [QX 5 1 a68 c68 (out ++ YB (row ++ (Qp px[i]))).length (Xt (out ++ YB (row ++ (Qp px[i])))), QK gH [.int .i64 K, .int .i64 (W : Int), .int .i64 (H : Int), .int .i64 M] 113, A0]) (Take.ent' (by repeat' constructor)) (Ent.cons (Ent.own_nil (Ent.refl _)))
      ·have hxW : x + 1 ≠ W := fun q => h6 (by simp only [List.length_append]; omega)
       have hxl : x < W := by rcases hI with ⟨_, _, q, _⟩ | ⟨q, _⟩; exact q; exact absurd h5 q
       refine Wp.skip (QP (Qa (Qc rfl rfl (QA rfl rfl rfl (Qo (by omega) (by omega)) ?_))))
       refine Qd rfl rfl (WpL.nil (Qq (⟨i + 1, y, x + 1, out, row ++ (Qp px[i]), aO, cO, a55, c55⟩ : RwX) ?_ ?_ (by ((repeat (first | exact Top.refl | refine Top.push rfl ?_)); done)) (by repeat (first | exact FrLe.nil | refine FrLe.cons rfl ?_)) ?_))
       ·exact ⟨by simp only; omega, hI.four h5 hlt (by omega), by simp only [List.length_append]; omega, fun q => by simp only [List.length_append]; have := hrl q; omega⟩
       ·simp only; omega
       ·exact Take.ent' (by repeat' constructor)
     ·have hrn := hI.rown h5
      subst hrn
      refine Wp.skip (Qb (Qa (Qd rfl rfl (WpL.nil (Wp.block ?_)))))
      refine Wp.loopD (σ := KdX) (fun z => z.k ≤ (Qp px[i]).length ∧ z.out = out ++ ((Qp px[i]).take z.k).flatMap (YA (Qg M)) ∧ z.out.length ≤ out.length + 2 * z.k) [7, 14, 69, 70, 71, 72, 73, 74, 75, 76, 77, 78, 79, 80, 81, 82, 83, 84, 85, 86, 87, 88, 89, 90, 91, 92, 93, 94, 95] (fun z => [(14, .int .i64 (z.k : Int)), (7, .slice z.a z.out.length z.c)]) (fun z => [QX 5 1 z.a z.c z.out.length (Xt z.out), A1, QX 3 1 aR cR 0 (Q5 []), QK gH [.int .i64 K, .int .i64 (W : Int), .int .i64 (H : Int), .int .i64 M] 113, A0]) (fun z => (Qp px[i]).length - z.k) ⟨0, out, aO, cO⟩ ?_ (by repeat (first | exact FrLe.nil | refine FrLe.cons rfl ?_)) ?_ ?_
      ·exact ⟨Nat.zero_le _, by simp, by simp⟩
      ·exact Take.ent' (by repeat' constructor)
      ·rintro ⟨j, out2, a2, c2⟩ ⟨hj, ho2, hol2⟩
       dsimp only at hj ho2 hol2 ⊢
       refine Qb (Qb (Qa (Qc rfl rfl (Qc rfl rfl (QO rfl rfl (Q8 rfl rfl rfl (WpL.nil (Qj rfl (fun h8 => ?_) (fun h8 => ?_)))))))))
       ·have hlj : j < (Qp px[i]).length := by omega
        have huj := hcan.2.2 _ (List.getElem_mem hlj)
        refine Wp.skip (Qb (Wp.block ?_))
        refine Qb (Qb (Qa ?_))
        refine Qw (vs := [_, _, _, _]) rfl rfl rfl (by rfl) ?_
        refine Qi rfl rfl (by repeat' constructor) (VD _ _ _ _) ?_
        rintro _ _ ⟨rfl, rfl⟩
        simp only [Qs]
        refine QH rfl rfl rfl (WpL.nil (Qj rfl (fun h9 => ?_) (fun h9 => ?_)))
        ·refine Qa (Qc rfl rfl (Qc rfl rfl (Qc rfl rfl (Xg j rfl rfl rfl hA1 (by exact Take.ent' (by repeat' constructor)) rfl (by omega) (by rw [Xf]; omega) ?_))))
         refine Xk rfl rfl hA1 (by exact Take.ent' (by repeat' constructor)) (XA (Qp px[i]) hlj) ?_
         refine YR rfl rfl rfl (by omega) (by omega) (Qo (by omega) (by omega)) ?_
         refine XY rfl Tryz.underlying3 rfl (w_u8 (by omega) (by omega)) ?_
         refine X4 rfl rfl rfl rfl ?_
         intro g3
         refine XN rfl rfl rfl (by repeat' constructor) (by rfl) (by rfl) (by rfl) (by rfl) (by omega) (by omega) ?_
         intro a86 c86
         rw [ZT, show out2.length + 1 = (out2 ++ [(((Qp px[i])[j]'hlj) / 256)]).length from by simp]
         have hl1 : (out2 ++ [((Qp px[i])[j]'hlj) / 256]).length = out2.length + 1 := by simp
         refine Qd rfl rfl (WpL.nil (Qa (Qc rfl rfl (Qc rfl rfl (Qc rfl rfl (Xg j rfl rfl rfl hA1 (by exact Take.ent' (by repeat' constructor)) rfl (by omega) (by rw [Xf]; omega) ?_))))))
         refine Xk rfl rfl hA1 (by exact Take.ent' (by repeat' constructor)) (XA (Qp px[i]) hlj) ?_
         refine YD rfl rfl rfl (by omega) (by omega) ?_
         refine XY rfl Tryz.underlying3 rfl (w_u8 (by omega) (by omega)) ?_
         refine X4 rfl rfl rfl rfl ?_
         intro g4
         (refine XN rfl rfl rfl (by repeat' constructor) (by rfl) (by rfl) (by rfl) (by rfl) (by omega) (by omega) ?_; intro a95 c95; rw [ZT, show (out2 ++ [((Qp px[i])[j]'hlj) / 256]).length + 1 = ((out2 ++ [((Qp px[i])[j]'hlj) / 256]) ++ [(((Qp px[i])[j]'hlj) % 256)]).length from by simp])
         refine Qd rfl rfl (WpL.nil (Qa (Qc rfl rfl (QA rfl rfl rfl (Qo (by omega) (by omega)) ?_))))
         refine Qd rfl rfl (WpL.nil (Qq (⟨j + 1, out2 ++ [((Qp px[i])[j]'hlj) / 256] ++ [((Qp px[i])[j]'hlj) % 256], a95, c95⟩ : KdX) ?_ ?_ (by ((repeat (first | exact Top.refl | refine Top.push rfl ?_)); done)) (by repeat (first | exact FrLe.nil | refine FrLe.cons rfl ?_)) ?_))
         ·exact ⟨by simp only; omega, by simp only; rw [ho2, ← Vk hlj, enc_two h9]; simp, by simp only [List.length_append, List.length_cons, List.length_nil]; omega⟩
         ·simp only; omega
         ·exact Ent.refl _
        ·refine Wp.skip (Qa (Qc rfl rfl (Qc rfl rfl (Qc rfl rfl (Xg j rfl rfl rfl hA1 (by exact Take.ent' (by repeat' constructor)) rfl (by omega) (by rw [Xf]; omega) ?_)))))
         refine Xk rfl rfl hA1 (by exact Take.ent' (by repeat' constructor)) (XA (Qp px[i]) hlj) ?_
         refine YD rfl rfl rfl (by omega) (by omega) ?_
         refine XY rfl Tryz.underlying3 rfl (w_u8 (by omega) (by omega)) ?_
         refine X4 rfl rfl rfl rfl ?_
         intro g5
         (refine XN rfl rfl rfl (by repeat' constructor) (by rfl) (by rfl) (by rfl) (by rfl) (by omega) (by omega) ?_; intro a95 c95; rw [ZT, show out2.length + 1 = (out2 ++ [(((Qp px[i])[j]'hlj) % 256)]).length from by simp])
         refine Qd rfl rfl (WpL.nil (Qa (Qc rfl rfl (QA rfl rfl rfl (Qo (by omega) (by omega)) ?_))))
         refine Qd rfl rfl (WpL.nil (Qq (⟨j + 1, out2 ++ [((Qp px[i])[j]'hlj) % 256], a95, c95⟩ : KdX) ?_ ?_ (by ((repeat (first | exact Top.refl | refine Top.push rfl ?_)); done)) (by repeat (first | exact FrLe.nil | refine FrLe.cons rfl ?_)) ?_))
         ·exact ⟨by simp only; omega, by simp only; rw [ho2, ← Vk hlj, enc_lo h9 huj.1 huj.2]; simp, by simp only [List.length_append, List.length_cons, List.length_nil]; omega⟩
         ·simp only; omega
         ·exact Ent.refl _
       ·have hjE : j = (Qp px[i]).length := by omega
        rw [hjE, List.take_length] at ho2
        refine QP (Qa (Qc rfl rfl (QA rfl rfl rfl (Qo (by omega) (by omega)) ?_)))
        refine Qd rfl rfl (WpL.nil (Qq (⟨i + 1, y, x, out2, [], a2, c2, aR, cR⟩ : RwX) ?_ ?_ (by ((repeat (first | exact Top.refl | refine Top.push rfl ?_)); done)) (by repeat (first | exact FrLe.nil | refine FrLe.cons rfl ?_)) ?_))
        ·exact ⟨by simp only; omega, by simp only; rw [ho2]; exact hI.more h5 hlt, by simp only [List.length_nil]; omega, fun q => absurd q h5⟩
        ·simp only; omega
        ·exact Take.ent' (by repeat' constructor)
  ·have hoE := hI.done (by omega) (show i = px.length by omega) hpl
   subst hoE
   refine QP (Qb (Qa (Qc rfl rfl (Qd rfl rfl (Qd rfl rfl (WpL.nil (Qh ?_)))))))
   apply RetQ.mk
   ·exact (QM rfl rfl rfl)
   ·exact ⟨aO, cO, rfl, rfl⟩
   ·exact Take.ent' (by repeat' constructor)

end Go.Proofs.YtggamdlpiejbiaaGreat
namespace Go.Proofs.YtggamdlpiejbiaaGreat
open Go.RowKit Go.Shelf
/-- A block whose first cells are these. -/
def rdo (g : Nat) (xs : List Value) : HP where
  p w S := (∀ b, S b ↔ b = g) ∧ g < w.heap.size ∧ ∀ (j : Nat) (u : Value), xs[j]? = some u → w.cell? ⟨g, j, none⟩ = some u
  loc := fun ⟨hs, hg, h⟩ hz hb => ⟨hs, Nat.lt_of_lt_of_le hg hz, fun j u hu => by rw [← h j u hu]; exact cell_same (hb _ ((hs _).2 rfl))⟩
  lt := fun ⟨hs, hg, _⟩ b hb => by rw [(hs b).1 hb]; exact hg
theorem RdsL.rdo {g : Nat} {xs : List Value} : RdsL [Go.Proofs.YtggamdlpiejbiaaGreat.rdo g xs] (some ⟨g, 0, none⟩) xs := by
  intro w U ⟨S, ⟨_, _, h⟩, _⟩
  refine ⟨fun _ => rfl, fun ad had j u hu => ?_⟩
  injection had with had
  subst had
  have := h j u hu
  simpa [Addr.add] using (by by_cases hj : j = 0 <;> simpa [Addr.add, hj] using this : w.cell? ((⟨g, 0, none⟩ : Addr).add j) = some u)
theorem bytes_below (w : World) (e : Nat) (s : ByteArray) : Below w.heap.size w (Lib.bytesWorld w e s) := by
  refine ⟨?_, ?_, ?_, ?_, ?_⟩
  · simp [Lib.bytesWorld, World.freeze, World.alloc, World.drew, -World.alloc_eq, -World.drew_eq]
  · simp [Lib.bytesWorld, World.freeze, World.alloc, World.drew, -World.alloc_eq, -World.drew_eq]
  · simp [Lib.bytesWorld, World.freeze, World.alloc, World.drew, -World.alloc_eq, -World.drew_eq]
  · rw [Lib.bytesWorld_size]; omega
  · intro b hb; exact Lib.bytesWorld_at_old w e s b hb
section
variable {P : Program} {n : Cx} {D : List Deferred} {ops : Array Oper} {rest : List Oper} {Q : Post} {fr : Fr} {l : List HP} {ty : Nat} {pos : String} {aft : Array Edge}
theorem out_bytes {w : World} {U : Nat → Prop} (h : Sat w l U) (e : Nat) (s : ByteArray) : Out (rdo w.heap.size (Xt (QJ s)) :: l) U w (Lib.bytesWorld w e s) := by
  have hb := bytes_below w e s
  have h2 : Sat (Lib.bytesWorld w e s) l (fun b => U b ∧ b < w.heap.size) := h.inside.keep hb.size fun b _ hlt => hb.block b hlt
  refine ⟨⟨fun b => b = w.heap.size, ⟨fun _ => Iff.rfl, by rw [Lib.bytesWorld_size]; omega, fun j u hu => ?_⟩, fun b hb => .inr (Nat.le_of_eq hb.symm), h2.mono fun b hb => ⟨.inl hb.1, fun e => ?_⟩⟩, .of_below hb⟩
  · have hj : j < (QJ s).length := by
      have := List.getElem?_eq_some_iff.1 hu
      rw [← Xi]; exact this.1
    rw [YW _ hj] at hu
    injection hu with hu
    have hj2 : j < s.size := by rw [QZ] at hj; exact hj
    rw [← hu, Lib.bytesWorld_cell w e s j hj2]
    rw [bsOf_at hj2]
    simp [List.getD, hj2]
    rfl
  · rw [e] at hb; exact absurd hb.2 (Nat.lt_irrefl _)
theorem s_t2b {d T1 T2 e : Nat} {x : Operand} {s : ByteArray} (hd : Nat.blt d n = true) (h1 : P.underlying T1 = some .string) (h2 : P.underlying T2 = some (.slice e)) (h3 : P.underlying e = some (.int .u8)) (hx : ev fr x = some (.string s))
    (k : ∀ g c, WpL P n D ops rest Q ((d, .slice (some ⟨g, 0, none⟩) (QJ s).length c) :: fr) (rdo g (Xt (QJ s)) :: l)) : WpL P n D ops (⟨some d, .convert T1 T2 x, ty, pos, aft, none⟩ :: rest) Q fr l :=
  X2 hd (σ := Nat × Nat) (fun q => .slice (some ⟨q.1, 0, none⟩) (QJ s).length q.2) (fun q => rdo q.1 (Xt (QJ s)) :: l) (fun a w U hh hs => ⟨(w.heap.size, grownCap w s.size 0 e), _, by rw [QZ]; simp [execOp, hh.ev hx, Lib.run_convert_string_bytes w T1 T2 e s h1 h2 h3], out_bytes hs e s⟩) fun q => k q.1 q.2
end
end Go.Proofs.YtggamdlpiejbiaaGreat
namespace Go.Proofs.YtggamdlpiejbiaaGreat
open Go.RowKit Go.Shelf


theorem fit_can {p C M : Int} (hf : YY C M) (h : Can C M p) : Yw p C M := ⟨hf, h.1, fun n hn => (h.2.2 n hn).2⟩
theorem kinds_mem {C M k : Int} (h : k ∈ Q4 C M) : YY C M ∧ (1 ≤ k ∧ k ≤ 6) ∧ QR k = C ∧ ((k = 1 ∨ k = 4) → M = 1) := by
  unfold Q4 at h
  split at h
  · rename_i hf
    obtain ⟨i, hi, rfl⟩ := List.mem_map.1 h
    obtain ⟨h1, h2⟩ := List.mem_filter.1 hi
    unfold kP at h2
    simp only [Bool.and_eq_true, decide_eq_true_eq] at h2
    have h3 := List.mem_range.1 h1
    refine ⟨hf, by omega, ?_, by omega⟩
    have := hf.1
    unfold QR
    split <;> omega
  · simp at h
theorem good_sz {most : Int} {m : Img} (hmo : most ≤ 100) (h : GoodI most m) : (0 ≤ m.w * m.h ∧ m.w * m.h ≤ 10000) ∧ m.px.length ≤ 10000 := by
  obtain ⟨_, _, hw, hh, hl, _⟩ := h
  have h1 : m.w * m.h ≤ 100 * 100 := Int.mul_le_mul (by omega) (by omega) (by omega) (by omega)
  have h2 : 0 ≤ m.w * m.h := Int.mul_nonneg (by omega) (by omega)
  omega
theorem good_fits {most : Int} {m : Img} {k : Int} (hmo : most ≤ 100) (h : GoodI most m) (hk : k ∈ Q4 m.c m.m) : XG k m.w m.h m.m ∧ (∀ p ∈ m.px, Yw p (QR k) m.m) ∧ YJ m.c m.m m.w m.h m.px := by
  obtain ⟨hf, hk6, hc, h1⟩ := kinds_mem hk
  have hz := good_sz hmo h
  obtain ⟨_, hm, hw, hh, hl, hp⟩ := h
  refine ⟨⟨hk6, by omega, by omega, hm, h1⟩, fun p hpp => by rw [hc]; exact fit_can hf (hp p hpp).1, ⟨by omega, by omega, by omega⟩, hl, fun p hpp => fit_can hf (hp p hpp).1⟩
/-- An image's bytes. -/
def wrI (m : Img) (k : Int) : List Int := hdW k m.w m.h m.m ++ (if k < 4 then ZI k m.w 0 m.px else Xl k m.w.toNat (Qg m.m) m.px m.h.toNat)
theorem hdW_len {K W H M : Int} (hK : K ≤ 6) (hW : W ≤ 100) (hH : H ≤ 100) (hM : M ≤ 65535) : (hdW K W H M).length ≤ 100000 := by
  have h1 := Yz K.toNat
  have h2 := Yz W.toNat
  have h3 := Yz H.toNat
  have h4 := Yz M.toNat
  unfold hdW
  simp only [List.length_append, List.length_cons, List.length_nil]
  split <;> simp only [List.length_append, List.length_cons, List.length_nil] <;> omega

end Go.Proofs.YtggamdlpiejbiaaGreat
namespace Go.Proofs.YtggamdlpiejbiaaGreat
open Go.RowKit Go.Shelf


theorem wrI_len {most : Int} {m : Img} {k : Int} (hmo : most ≤ 100) (hg : GoodI most m) (hk : k ∈ Q4 m.c m.m) : (wrI m k).length ≤ 3000000 := by
  obtain ⟨hMay, hfit, hfm⟩ := good_fits hmo hg hk
  obtain ⟨hz1, hz2⟩ := good_sz hmo hg
  have hM2 := hMay
  unfold XG at hM2
  obtain ⟨_, hg2, hgw, hgh, hgl, _⟩ := id hg
  have hz6 := hdW_len (K := k) (W := m.w) (H := m.h) (M := m.m) (by omega) (by omega) (by omega) (by omega)
  have hWn : ((m.w.toNat : Nat) : Int) = m.w := by omega
  have hHn : ((m.h.toNat : Nat) : Int) = m.h := by omega
  have hpl : m.px.length = m.w.toNat * m.h.toNat := by
    have q : ((m.w.toNat * m.h.toNat : Nat) : Int) = m.w * m.h := by rw [Int.natCast_mul, hWn, hHn]
    omega
  have hwl := Ya (K := k) (w := Qg m.m) (Q1 m.m) hpl (fun p hp => by have := ZZ (hfit p hp); omega) m.h.toNat (Nat.le_refl _)
  have hsb := XB (K := k) (W := m.w.toNat) (Q1 m.m) (by omega) (by omega)
  have hwl2 : (Xl k m.w.toNat (Qg m.m) m.px m.h.toNat).length ≤ 24576 * 100 := by rw [hwl]; exact Nat.mul_le_mul hsb.2 (by omega)
  have h8 := VI (K := k) (W := m.w) m.px 0
  unfold wrI
  rw [List.length_append]
  split <;> omega

end Go.Proofs.YtggamdlpiejbiaaGreat
namespace Go.Proofs.YtggamdlpiejbiaaGreat
open Go.RowKit Go.Shelf


theorem hdW_bd {K W H M : Int} : ∀ b ∈ hdW K W H M, 0 ≤ b ∧ b ≤ 255 := by
  intro b hb
  unfold hdW at hb
  have hd : ∀ n, b ∈ XO n → 0 ≤ b ∧ b ≤ 255 := fun n h => by have := digs_bd n b h; omega
  simp only [List.mem_append, List.mem_singleton] at hb
  rcases hb with ((((((h | h) | h) | h) | h) | h) | h) | h
  · omega
  · exact hd _ h
  · omega
  · exact hd _ h
  · omega
  · exact hd _ h
  · omega
  · split at h
    · simp at h
    · rcases List.mem_append.1 h with h | h
      · exact hd _ h
      · have := List.mem_singleton.1 h; omega

end Go.Proofs.YtggamdlpiejbiaaGreat
namespace Go.Proofs.YtggamdlpiejbiaaGreat
open Go.RowKit Go.Shelf


theorem wrI_byte {most : Int} {m : Img} {k : Int} (_hmo : most ≤ 100) (hg : GoodI most m) (hk : k ∈ Q4 m.c m.m) : ∀ b ∈ wrI m k, 0 ≤ b ∧ b ≤ 255 := by
  intro b hb
  obtain ⟨_, _, hc, h4⟩ := kinds_mem hk
  unfold wrI at hb
  rcases List.mem_append.1 hb with h | h
  · exact hdW_bd b h
  · split at h
    · exact wrL_byte _ _ b h
    · exact wrRaw_bd hg.2.1 (fun q => h4 (.inr q)) (fun p hp => by rw [hc]; exact (hg.2.2.2.2.2 p hp).1) b h
theorem s_bs4 {P : Program} {n : Cx} {D : List Deferred} {ops : Array Oper} {rest : List Oper} {Q : Post} {fr : Fr} {l : List HP} {ty : Nat} {pos : String} {aft : Array Edge} {d t e by_ : Nat} {z v v2 v3 v4 : Value} {x x2 x3 x4 : Operand} (hd : Nat.blt d n = true) [ht : SlT P t e 1 by_ z] (hx : ev fr x = some v) (hx2 : ev fr x2 = some v2) (hx3 : ev fr x3 = some v3) (hx4 : ev fr x4 = some v4) (hz : z.cells.size = 1)
    (hv : v.cells = #[v]) (hv2 : v2.cells = #[v2]) (hv3 : v3.cells = #[v3]) (hv4 : v4.cells = #[v4])
    (k : ∀ g, WpL P n D ops rest Q ((d, .slice (some ⟨g, 0, none⟩) 4 4) :: fr) (QK g [v, v2, v3, v4] e :: l)) : WpL P n D ops (⟨some d, .buildSlice t 4 #[(0, x), (1, x2), (2, x3), (3, x4)], ty, pos, aft, none⟩ :: rest) Q fr l :=
  s_bs (os := [(0, x), (1, x2), (2, x3), (3, x4)]) [v, v2, v3, v4] hd hz rfl (by simp [hv, hv2, hv3, hv4]) (by simp) (fun a hh => by simp [hh.ev hx, hh.ev hx2, hh.ev hx3, hh.ev hx4]) k

end Go.Proofs.YtggamdlpiejbiaaGreat
namespace Go.Proofs.YtggamdlpiejbiaaGreat
open Go.RowKit Go.Shelf


theorem bsOf_bd (s : ByteArray) : ∀ b ∈ QJ s, 0 ≤ b ∧ b ≤ 255 := by
  intro b hb
  unfold QJ at hb
  obtain ⟨x, _, rfl⟩ := List.mem_map.1 hb
  have := UInt8.toNat_lt x
  omega
end Go.Proofs.YtggamdlpiejbiaaGreat
namespace Go.Proofs.YtggamdlpiejbiaaGreat
open Go.RowKit Go.Shelf

def Vg (es : List Evt) : Int := ((es.filter fun x => decide (x.k = 3)).length : Int)
theorem cnt3_app (a b : List Evt) : Vg (a ++ b) = Vg a + Vg b := by unfold Vg; rw [List.filter_append, List.length_append]; push_cast; rfl
def EvOk (es : List Evt) : Prop := ∀ x ∈ es.tail, x.row = []
theorem psEvts_q (s : PS) (bd : Bd) (st e : Int) (row : List Int) : (Zl s bd st e row).1.told = s.told ∧ (Zl s bd st e row).1.imgs = s.imgs + Vg (Zl s bd st e row).2 ∧ EvOk (Zl s bd st e row).2 ∧ (Zl s bd st e row).1.over = s.over := by
  unfold Zl rowE doneE
  by_cases h1 : st = 1 <;> by_cases h2 : st = 2 <;> by_cases h3 : row = [] <;> simp [h1, h2, h3, Vg, EvOk]
  all_goals (subst h2; simp_all)
theorem psHeads_q (s : PS) (h : HS) : (Z4 s h).1.told = s.told ∧ (Z4 s h).1.imgs = s.imgs + Vg (Z4 s h).2 ∧ EvOk (Z4 s h).2 ∧ (Z4 s h).1.over = s.over := by
  unfold Z4
  repeat' split
  all_goals simp [Vg, EvOk]
theorem psStep_q (l0 l1 l2 : Int) (s : PS) (c : Int) : (psStep l0 l1 l2 s c).1.told = s.told ∧ (psStep l0 l1 l2 s c).1.imgs = s.imgs + Vg (psStep l0 l1 l2 s c).2 ∧ EvOk (psStep l0 l1 l2 s c).2 ∧ (psStep l0 l1 l2 s c).1.over = s.over := by
  unfold psStep
  split
  · split
    · simp [Vg, EvOk]
    · exact psHeads_q _ _
  · split
    · exact psHeads_q _ _
    · unfold psBody
      split
      · simp [Vg, EvOk]
      · exact psEvts_q _ _ _ _ _
      · exact psEvts_q _ _ _ _ _
def aliveP (s : PS) : Prop := s.over = false ∧ s.e = 0
theorem dead_of {s : PS} (h : ¬ aliveP s) : s.over = true ∨ s.e ≠ 0 := by
  unfold aliveP at h
  by_cases he : s.e = 0
  · left; cases ho : s.over with
    | true => rfl
    | false => exact absurd ⟨ho, he⟩ h
  · exact .inr he
theorem psPut_q (l0 l1 l2 : Int) (s : PS) (c : Int) : ((Zm l0 l1 l2 s c).2 ≠ [] → aliveP s) ∧ (aliveP (Zm l0 l1 l2 s c).1 → aliveP s) ∧ (aliveP s → (Zm l0 l1 l2 s c).1.told = s.told + 1) ∧ (Zm l0 l1 l2 s c).1.imgs = s.imgs + Vg (Zm l0 l1 l2 s c).2 ∧ EvOk (Zm l0 l1 l2 s c).2 := by
  by_cases h : aliveP s
  · rw [psPut_ok _ _ _ h.1 h.2]
    have q := psStep_q l0 l1 l2 { s with told := s.told + 1 } c
    exact ⟨fun _ => h, fun _ => h, fun _ => q.1, q.2.1, q.2.2.1⟩
  · rw [psPut_dead _ _ _ (dead_of h)]
    exact ⟨fun q => absurd rfl q, fun q => absurd q h, fun q => absurd q h, by simp [Vg], by simp [EvOk]⟩
theorem Vy (l0 l1 l2 : Int) : ∀ (bs : List Int) (s : PS), (XJ l0 l1 l2 s bs).1.imgs = s.imgs + Vg ((XJ l0 l1 l2 s bs).2.map (·.1))
  | [], s => by simp [XJ, Vg]
  | c :: bs, s => by
    rw [ZP]
    have q := psPut_q l0 l1 l2 s c
    have ih := Vy l0 l1 l2 bs (Zm l0 l1 l2 s c).1
    simp only [Vp, List.map_append, cnt3_app, List.map_map]
    rw [ih, q.2.2.2.1, show ((fun x : Evt × Int => x.1) ∘ fun x => (x, (Zm l0 l1 l2 s c).1.told)) = id from rfl, List.map_id]
    omega
end Go.Proofs.YtggamdlpiejbiaaGreat
namespace Go.Proofs.YtggamdlpiejbiaaGreat
open Go.RowKit Go.Shelf
def okFs (P : Program) : Nat → List Field → Bool
  | _, [] => true
  | i, f :: fs => (f.name != "_") && (f.offset == i) && (match P.underlying f.type with | some (.int .i64) => true | _ => false) && P.plainKey f.type && okFs P (i + 1) fs
theorem run_eqFields {P : Program} (d : Nat) (us vs : List Int) (hl : us.length = vs.length) (w : World) : ∀ (fs : List Field) (i : Nat), i + fs.length = us.length → okFs P i fs = true → (Op.eqFields (d + 1) (Q5 us).toArray (Q5 vs).toArray fs).run P w = .ok (decide (us.drop i = vs.drop i)) w
  | [], i, hi, _ => by
    simp only [List.length_nil] at hi
    rw [List.drop_of_length_le (by omega), List.drop_of_length_le (by omega)]
    simp [Op.eqFields]
  | f :: fs, i, hi, hk => by
    simp only [List.length_cons] at hi
    simp only [okFs, Bool.and_eq_true, bne_iff_ne, beq_iff_eq] at hk
    obtain ⟨⟨⟨⟨h1, h2⟩, h3⟩, h4⟩, h5⟩ := hk
    have hu : P.underlying f.type = some (.int .i64) := by
      split at h3
      · assumption
      · cases h3
    have e1 : (part f.type (Q5 us).toArray f.offset).run P w = .ok (.int .i64 (us[i]'(by omega))) w := run_part_plain w h4 (by rw [h2]; simp [Q5, List.getElem?_eq_getElem (show i < us.length by omega)])
    have e2 : (part f.type (Q5 vs).toArray f.offset).run P w = .ok (.int .i64 (vs[i]'(by omega))) w := run_part_plain w h4 (by rw [h2]; simp [Q5, List.getElem?_eq_getElem (show i < vs.length by omega)])
    have ih := run_eqFields (P := P) d us vs hl w fs (i + 1) (by omega) h5
    unfold Op.eqFields
    rw [if_pos h1]
    simp only [Sem.run_bind, e1, e2, Result.andThen_ok, run_equalIn_int w d f.type .i64 .i64 _ _ hu]
    have d1 := List.drop_eq_getElem_cons (show i < us.length by omega)
    have d2 := List.drop_eq_getElem_cons (show i < vs.length by omega)
    by_cases hx : us[i]'(by omega) = vs[i]'(by omega)
    · rw [if_neg (by simp [hx]), ih]
      have q : us.drop (i + 1) = vs.drop (i + 1) ↔ us.drop i = vs.drop i := by
        rw [d1, d2, hx]
        exact ⟨fun e => by rw [e], fun e => (List.cons.inj e).2⟩
      rw [decide_eq_decide.2 q]
    · rw [if_pos (by simp [hx])]
      have q : ¬ us.drop i = vs.drop i := by
        rw [d1, d2]
        exact fun e => hx (List.cons.inj e).1
      rw [decide_eq_false q]
      simp
class AeqT (P : Program) (T : Nat) (k : outParam Nat) : Prop where
  hu : P.underlying T = some (.struct (P.fieldsOf T))
  st : P.stoodInHeld T = false
  gd : P.eqGuardType P.depth T = false
  ok : okFs P 0 (P.fieldsOf T).toList = true
  hk : (P.fieldsOf T).toList.length = k
section
variable {P : Program} {n : Cx} {D : List Deferred} {ops : Array Oper} {rest : List Oper} {Q : Post} {fr : Fr} {l : List HP} {ty : Nat} {pos : String} {aft : Array Edge}
theorem run_aeq {T k : Nat} (hT : AeqT P T k) (us vs : List Int) (h1 : us.length = k) (h2 : vs.length = k) (w : World) : (Op.equalIn 10000 T (.agg (Q5 us).toArray) (.agg (Q5 vs).toArray)).run P w = .ok (decide (us = vs)) w := by
  rw [run_equalIn_struct w 9999 T _ _ hT.hu hT.st]
  have := run_eqFields (P := P) 9998 us vs (by omega) w (P.fieldsOf T).toList 0 (by rw [hT.hk]; omega) hT.ok
  simpa using this
theorem s_aeq {d T T2 k : Nat} {x y : Operand} (us vs : List Int) (hd : Nat.blt d n = true) [hT : AeqT P T k] (hx : ev fr x = some (.agg (Q5 us).toArray)) (hy : ev fr y = some (.agg (Q5 vs).toArray)) (h1 : us.length = k) (h2 : vs.length = k)
    (kk : WpL P n D ops rest Q ((d, .bool (decide (us = vs))) :: fr) l) : WpL P n D ops (⟨some d, .binOp .eql T x y T2, ty, pos, aft, none⟩ :: rest) Q fr l :=
  WpL.val hd (fun A w _ hh _ => by
    simp only [execOp, hh.ev hx, hh.ev hy, Sem.run_bind, run_eqGuard_agg w .eql T x y _ _ hT.gd, Result.andThen_ok, run_eql_struct, run_aeq hT us vs h1 h2]
    simp) kk
theorem own_max {w : World} {S : Nat → Prop} {T s c m : Nat} {a : Option Addr} {xs : List Value} (h : (QX T s a c m xs).p w S) : m ≤ 9223372036854775807 := by
  rcases h.2.2 with h2 | ⟨g, cap, cur, e, h0, hh, h1, h3, rest⟩
  · have := X8 h
    rcases this with ⟨_, _, h, _⟩ | ⟨_, _, e, _⟩
    · omega
    · obtain ⟨e0, _⟩ := h2
      rw [e] at e0
      cases e0
  · have := X8 h
    rcases this with ⟨_, _, h, _⟩ | ⟨_, _, _, _, hmc, _⟩
    · omega
    · injection e with e1 e2 e3
      unfold maxLen at h3
      omega
end
end Go.Proofs.YtggamdlpiejbiaaGreat
namespace Go.Proofs.YtggamdlpiejbiaaGreat
open Go.RowKit Go.Shelf

instance : AeqT Tryz.prog 48 2 := ⟨by kernel_rfl, by kernel_rfl, by kernel_rfl, by kernel_rfl, by kernel_rfl⟩

theorem SameRowW_spec (As : List HP) (a b : Option Addr) (ca cb : Nat) (xs ys : List Int) (hx : RdsL As a (XQ xs)) (hy : RdsL As b (XQ ys)) (hl : xs.length ≤ 9223372036854775807) : Fn Tryz.prog 65 #[.slice a xs.length ca, .slice b ys.length cb] As (fun v l => v = .bool (decide (xs = ys)) ∧ l = As) := by
 refine Ql (vs := [.slice a xs.length ca, .slice b ys.length cb]) Tryz.func65 rfl Tryz.ntmps65 rfl (Qb (Qa (Qd rfl rfl (WpL.nil (Qb (Qb (Qa (Qc rfl rfl (QO rfl rfl (Qc rfl rfl (QO rfl rfl (Xq rfl rfl rfl ?_))))))))))))
 refine WpL.nil (Qj rfl (fun h0 => ?_) (fun h0 => ?_))
 ·refine Qb (Qa (Qd rfl rfl (WpL.nil (Qh ?_))))
  apply RetQ.mk
  ·exact (Res.one rfl rfl)
  ·exact ⟨congrArg Value.bool (df fun e => h0 (by rw [e])), rfl⟩
  ·exact Ent.refl _
 ·have hlen : xs.length = ys.length := by omega
  refine Wp.skip (Qb (Qb (Qa (Qd rfl rfl (WpL.nil (Wp.block ?_))))))
  refine Wp.loopD (σ := Nat) (fun k => k ≤ xs.length ∧ xs.take k = ys.take k) [4, 5, 11, 12, 13, 14, 15, 16, 17, 18, 19, 20, 21, 22, 23, 24, 25] (fun k => [(5, .int .i64 (k : Int))]) (fun _ => _) (fun k => xs.length - k) 0 ?_ (by repeat (first | exact FrLe.nil | refine FrLe.cons rfl ?_)) (Ent.refl _) ?_
  ·exact ⟨Nat.zero_le _, rfl⟩
  ·rintro k ⟨hk, htk⟩
   refine Qb (Qb (Qa (Qc rfl rfl (Qc rfl rfl (QO rfl rfl (Q8 rfl rfl rfl (WpL.nil (Qj rfl (fun h2 => ?_) (fun h2 => ?_)))))))))
   ·have hkx : k < xs.length := by omega
    have hky : k < ys.length := by omega
    refine Wp.skip (Qb (Wp.block ?_))
    refine Qb ?_
    apply Q9 mixed [⟨17, _, []⟩, ⟨18, _, []⟩, ⟨19, _, [0, 1]⟩, ⟨20, _, [2]⟩, ⟨21, _, []⟩, ⟨22, _, []⟩, ⟨23, _, [4, 5]⟩, ⟨24, _, [6]⟩, ⟨25, _, [3, 7]⟩] rfl
    ·refine AllObs.mk ?_ ?_
     ·exact Qc rfl rfl (Qm rfl)
     refine AllObs.mk ?_ ?_
     ·exact Qc rfl rfl (Qm rfl)
     refine AllObs.mk ?_ ?_
     ·refine Xg k rfl rfl rfl hx (Ent.refl _) rfl (by omega) (by rw [Yh]; exact hkx) ?_
      exact Qm rfl
     refine AllObs.mk ?_ ?_
     ·refine Xk rfl rfl hx (Ent.refl _) (Y6 xs hkx) ?_
      exact Qm rfl
     refine AllObs.mk ?_ ?_
     ·exact Qc rfl rfl (Qm rfl)
     refine AllObs.mk ?_ ?_
     ·exact Qc rfl rfl (Qm rfl)
     refine AllObs.mk ?_ ?_
     ·refine Xg k rfl rfl rfl hy (Ent.refl _) rfl hky (by rw [Yh]; exact hky) ?_
      exact Qm rfl
     refine AllObs.mk ?_ ?_
     ·refine Xk rfl rfl hy (Ent.refl _) (Y6 ys hky) ?_
      exact Qm rfl
     refine AllObs.mk ?_ ?_
     ·exact Xq rfl rfl rfl (Qm rfl)
     exact AllObs.nil
    ·refine Qj rfl (fun h3 => ?_) (fun h3 => ?_)
     ·refine Qb (Qa (Qd rfl rfl (WpL.nil (Qh ?_))))
      apply RetQ.mk
      ·exact (Res.one rfl rfl)
      ·exact ⟨congrArg Value.bool (df fun e => h3 (by subst e; rfl)), rfl⟩
      ·exact Ent.refl _
     ·refine Wp.skip (Qa (Qc rfl rfl (QA rfl rfl rfl (Qo (by omega) (by omega)) ?_)))
      refine Qd rfl rfl (WpL.nil (Qq (k + 1) ?_ ?_ (by ((repeat (first | exact Top.refl | refine Top.push rfl ?_)); done)) (by repeat (first | exact FrLe.nil | refine FrLe.cons rfl ?_)) ?_))
      ·refine ⟨by omega, ?_⟩
       rw [List.take_succ_eq_append_getElem hkx, List.take_succ_eq_append_getElem hky, htk, Classical.not_not.1 h3]
      ·omega
      ·exact Ent.refl _
   ·obtain rfl : k = xs.length := by omega
    have hxy : xs = ys := by rw [List.take_length, hlen, List.take_length] at htk; exact htk
    refine QP (Qb (Qa (Qd rfl rfl (WpL.nil (Qh ?_)))))
    apply RetQ.mk
    ·exact (Res.one rfl rfl)
    ·exact ⟨congrArg Value.bool (dt hxy), rfl⟩
    ·exact Ent.refl _

end Go.Proofs.YtggamdlpiejbiaaGreat
namespace Go.Proofs.YtggamdlpiejbiaaGreat
open Go.RowKit Go.Shelf


def mC (x : Img) (a : Option Addr) (c : Nat) : List Value := [.int .i64 x.c, .int .i64 x.m, .int .i64 x.w, .int .i64 x.h, .slice a x.px.length c]
end Go.Proofs.YtggamdlpiejbiaaGreat
namespace Go.Proofs.YtggamdlpiejbiaaGreat
open Go.RowKit Go.Shelf

theorem Same03_true (As : List HP) (x : Img) (a b : Option Addr) (c c2 : Nat) (hx : RdsL As a (XQ x.px)) (hy : RdsL As b (XQ x.px)) (hl : x.px.length ≤ 9223372036854775807) : Fn Tryz.prog 83 #[.agg #[.int .i64 x.w, .int .i64 x.h, .slice a x.px.length c], .agg #[.int .i64 x.w, .int .i64 x.h, .slice b x.px.length c2]] As (fun v l => v = .bool true ∧ l = As) := by
 refine Ql (vs := [.agg #[.int .i64 x.w, .int .i64 x.h, .slice a x.px.length c], .agg #[.int .i64 x.w, .int .i64 x.h, .slice b x.px.length c2]]) Tryz.func83 rfl Tryz.ntmps83 rfl (Qb (Qa (Q2 rfl rfl rfl ?_)))
 intro g1
 refine Q2 rfl rfl rfl ?_
 intro g2
 refine Qd rfl rfl (WpL.nil (Qb (Qa (Qk (o2 := 0) rfl rfl rfl (Qn rfl rfl (by rfl) ?_)))))
 refine Qk (o2 := 0) rfl rfl rfl (Qn rfl rfl (by rfl) ?_)
 refine QH rfl rfl rfl (Qc rfl rfl (Qx (dj := 10) rfl (decide_eq_true rfl) ?_))
 refine Qf rfl rfl (Qk (o2 := 1) rfl rfl rfl (Qf rfl rfl (Qn rfl rfl (by rfl) ?_)))
 refine Qf rfl rfl (Qk (o2 := 1) rfl rfl rfl (Qf rfl rfl (Qn rfl rfl (by rfl) ?_)))
 refine Qf rfl rfl (QH rfl rfl rfl (Qr rfl rfl rfl (Qc rfl rfl (Qx (dj := 17) rfl (decide_eq_true rfl) ?_))))
 refine Qf rfl rfl (Qk (o2 := 2) rfl rfl rfl (Qf rfl rfl (Qn rfl rfl (by rfl) ?_)))
 refine Qf rfl rfl (Qk (o2 := 2) rfl rfl rfl (Qf rfl rfl (Qn rfl rfl (by rfl) ?_)))
 refine Qf rfl rfl (Qi rfl rfl (Take.skip (Take.skip Take.all)) (SameRowW_spec As a b c c2 x.px x.px hx hy hl) ?_)
 rintro _ _ ⟨rfl, rfl⟩
 refine Qr rfl rfl rfl (Qd rfl rfl (WpL.nil (Qh ?_)))
 apply RetQ.mk
 ·exact (Res.one rfl rfl)
 ·exact ⟨congrArg Value.bool (decide_eq_true rfl), rfl⟩
 ·exact (Take.app rfl).ent'

theorem Same10_true (As : List HP) (x : Img) (a b : Option Addr) (c c2 : Nat) (hx : RdsL As a (XQ x.px)) (hy : RdsL As b (XQ x.px)) (hl : x.px.length ≤ 9223372036854775807) : Fn Tryz.prog 40 #[.agg (mC x a c).toArray, .agg (mC x b c2).toArray] As (fun v l => v = .bool true ∧ l = As) := by
 refine Ql (vs := [.agg (mC x a c).toArray, .agg (mC x b c2).toArray]) Tryz.func40 rfl Tryz.ntmps40 rfl (Qb (Qa (Q2 rfl rfl rfl ?_)))
 intro g1
 refine Q2 rfl rfl rfl ?_
 intro g2
 refine Qd rfl rfl (WpL.nil (Qb (Qa (Qk (o2 := 2) rfl rfl rfl ?_))))
 refine Qw (vs := [_, _, _]) rfl rfl rfl (by rfl) ?_
 refine Qk (o2 := 2) rfl rfl rfl ?_
 refine Qw (vs := [_, _, _]) rfl rfl rfl (by rfl) ?_
 refine Qi rfl rfl (Take.skip (Take.skip Take.all)) (Same03_true As x a b c c2 hx hy hl) ?_
 rintro _ _ ⟨rfl, rfl⟩
 refine WpL.ent Ent.comm ?_
 simp only [Qs]
 refine Qd rfl rfl (WpL.nil (Qb (Qa (Qc rfl rfl (Qc rfl rfl (Qf rfl rfl (Qk (o2 := 0) rfl rfl rfl (Qf rfl rfl ?_))))))))
 refine Qw (vs := [_, _]) rfl rfl rfl (by rfl) ?_
 refine Qf rfl rfl (Qk (o2 := 0) rfl rfl rfl (Qf rfl rfl ?_))
 refine Qw (vs := [_, _]) rfl rfl rfl (by rfl) ?_
 refine Qf rfl rfl (s_aeq [x.c, x.m] [x.c, x.m] rfl rfl rfl rfl rfl (Qr rfl rfl rfl (Qd rfl rfl (WpL.nil (Qh ?_)))))
 apply RetQ.mk
 ·exact (Res.one rfl rfl)
 ·exact ⟨congrArg Value.bool (decide_eq_true rfl), rfl⟩
 ·exact Ent.drop (Ent.drop (Ent.refl _))

end Go.Proofs.YtggamdlpiejbiaaGreat
