/- Walks and plain laws, a part of the proof of ImageParses: every input that the law's guards let in, no condition beside. -/
import Derived.Test.YtggamdlpiejbiaaGreatM12
namespace Go.Proofs.YtggamdlpiejbiaaGreat
open Go.RowKit Go.Shelf

theorem rRead_spec (s : ByteArray) (hs : s.size ≤ 900000000000) (K W H M : Int) : Fn Tryz.prog 80 #[.string s, .agg #[.int .i64 K, .int .i64 W, .int .i64 H, .int .i64 M]] [] (fun v l => ∃ out i x a c, (out, i, x) = Z7 K W H M (QK s) ∧ v = .tuple #[.slice a out.length c, .int .i64 i, .int .i64 x] ∧ l = [QU 92 1 a c (out).length (XJ out)]) := by
 refine Ql (vs := [.string s, .agg #[.int .i64 K, .int .i64 W, .int .i64 H, .int .i64 M]]) Tryz.func80 rfl Tryz.ntmps80 rfl (Qb (Qa (Q1 rfl rfl rfl ?_)))
 intro g1
 refine Qd rfl rfl (Qd rfl rfl (Qd rfl rfl (WpL.nil (Qb (Qa ?_)))))
 refine Qv (vs := [_, _, _, _]) rfl rfl rfl (by rfl) ?_
 refine Qi rfl rfl (by repeat' constructor) (rMay_spec _ _ _ _) ?_
 rintro _ _ ⟨rfl, rfl⟩
 simp only [Qr]
 refine Qd rfl rfl (WpL.nil (Qb (Qb (Qa (Qc rfl rfl (XN rfl rfl (WpL.nil (Qh rfl (fun hP => ?_) (fun hP => ?_)))))))))
 ·refine Qb (Qa (Qd rfl rfl (Qd rfl rfl (Qd rfl rfl (WpL.nil (Qg ?_))))))
  apply RetQ.mk
  ·exact (Res.three rfl rfl rfl rfl)
  ·exact ⟨[], _, _, none, 0, (if_neg hP).symm, rfl, rfl⟩
  ·exact Ent.own_nil (Ent.nil _)
 ·have hP := Classical.not_not.1 hP
  have hP3 := hP
  unfold ZB XP at hP3
  refine Wp.skip (Qb (Qa ?_))
  refine Qv (vs := [_, _, _, _]) rfl rfl rfl (by rfl) ?_
  refine Qi rfl rfl (by repeat' constructor) (rNew_spec _ _ _ _) ?_
  rintro _ _ ⟨rfl, rfl⟩
  simp only [Qr]
  refine XC rfl ?_
  intro gR
  refine QC rfl rfl rfl (by rfl) rfl ?_
  refine WpL.nil (Qb (Qa (Qd rfl rfl (WpL.nil (Qb (Qb (Qa (Qd rfl rfl (WpL.nil (Wp.block ?_))))))))))
  refine Wp.loopD (σ := RdX) (fun x => x.k ≤ s.size ∧ RInv (QV K) x.k x.acc.length ⟨x.n, x.one, x.row, x.rows, x.last, x.e⟩ ∧ x.last = 0 ∧ readL K W H M ((QK s).drop x.k) (x.k : Int) ⟨x.n, x.one, x.row, x.rows, x.last, x.e⟩ x.acc = Z7 K W H M (QK s) ∧ RGood K W ⟨x.n, x.one, x.row, x.rows, x.last, x.e⟩) [4, 5, 6, 9, 10, 11, 12, 21, 22, 23, 24, 25, 26, 27, 28, 29, 30, 31, 32, 33, 34, 35, 36, 37, 38, 39, 40, 41, 42, 43, 44, 45, 46, 47, 48, 49] (fun x => [(10, .int .i64 (x.k : Int)), (9, .slice x.a3 x.acc.length x.c3)]) (fun x => [QJ gR [.int .i64 K, .int .i64 W, .int .i64 H, .int .i64 M, .int .i64 x.n, .slice x.a1 x.one.length x.c1, .slice x.a2 x.row.length x.c2, .int .i64 x.rows, .int .i64 x.last, .int .i64 x.e] 175, QU 3 1 x.a1 x.c1 x.one.length (Q2 x.one), QU 92 1 x.a2 x.c2 x.row.length (XJ x.row), QU 92 1 x.a3 x.c3 x.acc.length (XJ x.acc)]) (fun x => s.size - x.k) ⟨0, -1, [], [], 0, 0, 0, [], none, 0, none, 0, none, 0⟩ ?_ (by repeat (first | exact FrLe.nil | refine FrLe.cons rfl ?_)) ?_ ?_
  ·exact ⟨Nat.zero_le _, ⟨by simp; have := Zr K; omega, by simp, by simp, by simp⟩, rfl, (if_pos hP).symm, by decide, fun _ => rfl, by simp only [List.length_nil]; omega⟩
  ·exact (Ent.own_nil (T := 3) (s := 1) (Ent.refl _)).trans ((Ent.own_nil (T := 92) (s := 1) (Ent.refl _)).trans ((Ent.own_nil (T := 92) (s := 1) (Ent.refl _)).trans (Take.ent' (by repeat' constructor))))
  ·rintro ⟨k, n, one, row, rows, last, e, acc, a1, c1, a2, c2, a3, c3⟩ ⟨hk, hinv, hl, hR, hgd⟩
   dsimp only at hk hinv hl hR hgd ⊢
   have hch := Zr K
   have hin := hinv
   obtain ⟨hi1, hi2, hi3, hi4⟩ := hin
   dsimp only at hi1 hi2 hi3 hi4
   have hg2 := hgd
   obtain ⟨hgn, hgk, hgr⟩ := hg2
   dsimp only at hgn hgk hgr
   refine Qb (Qb (Qa (Qc rfl rfl (Qc rfl rfl (Xu rfl Tryz.underlying9 rfl (Q7 rfl rfl rfl (WpL.nil (Qh rfl (fun h2 => ?_) (fun h2 => ?_)))))))))
   ·have hlt : k < s.size := by omega
    refine Wp.skip (Qb (Wp.block ?_))
    refine Qb ?_
    apply Y1 (fB := []) mixed 8 [(4, false), (3, true)] rfl rfl (by kernel_rfl)
    apply Q4 [⟨0, 28, _, [], false⟩, ⟨1, 29, _, [], false⟩, ⟨2, 30, _, [], false⟩, ⟨3, 31, _, [1, 2], false⟩] [] [0, 1, 2, 3] [27, 33, 34, 11, 12] (.inr rfl) rfl rfl rfl (by kernel_rfl) rfl rfl rfl
    ·refine AllF.cons rfl rfl rfl rfl ?_ ?_
     ·refine Qv (vs := [_, _, _, _, _, _, _, _, _, _]) rfl rfl rfl (by rfl) ?_
      exact Qm rfl
     refine AllF.cons rfl rfl rfl rfl ?_ ?_
     ·exact Qc rfl rfl (Qm rfl)
     refine AllF.cons rfl rfl rfl rfl ?_ ?_
     ·exact Qc rfl rfl (Qm rfl)
     refine AllF.cons rfl rfl rfl rfl ?_ ?_
     ·refine Yg rfl Tryz.underlying9 rfl rfl (by omega) (by simp; omega) ?_
      exact Qm rfl
     exact AllF.nil
    ·refine Qi rfl rfl (by repeat' constructor) (rPut_spec _ _ _ _ _ _ _ _ _ _ _ _ _ _ _ (by omega) (u8_lt _) (by omega) (by omega) (by omega) (by omega) (by omega) (by omega) (by omega) (by omega) (by omega) (by omega) (by omega)) ?_
     rintro _ _ ⟨n2, one2, row2, rows2, last2, e2, out, a1, c1, a2, c2, a3, c3, hs2, rfl, rfl⟩
     simp only [Qr]
     have hinv2 := putR_inv (M := M) (W := W) (H := H) (c := ((s[k]'hlt).toNat : Int)) hinv
     have hgd2 := putR_good (M := M) (H := H) (c := ((s[k]'hlt).toNat : Int)) (by omega) hgd
     have hs3 : (({ n := n2, one := one2, row := row2, rows := rows2, last := last2, e := e2 } : RS), out) = X8 K W H M ⟨n, one, row, rows, last, e⟩ ((s[k]'hlt).toNat : Int) := hs2
     rw [← hs3] at hinv2 hgd2
     rw [Xz hlt, readL, ← hs3] at hR
     dsimp only at hR
     have hol := hinv2.2.1
     dsimp only at hol
     have hla := putR_last (K := K) (W := W) (H := H) (M := M) (c := ((s[k]'hlt).toNat : Int)) (s := ⟨n, one, row, rows, last, e⟩) hl
     rw [← hs3] at hla
     dsimp only at hla
     refine WpL.nil ⟨rfl, rfl, ?_⟩
     apply Zk [⟨5, 27, _, [4], false⟩, ⟨6, 33, _, [5], false⟩, ⟨7, 34, _, [5], true⟩] [] [5, 6] [12, 34] (.inl ⟨_, .nil⟩) rfl rfl rfl (by kernel_rfl) rfl rfl rfl rfl
     ·refine AllF.cons rfl rfl rfl rfl ?_ ?_
      ·exact Qc rfl rfl (Qm rfl)
      refine AllF.cons rfl rfl rfl rfl ?_ ?_
      ·exact QB rfl rfl rfl (Qm rfl)
      refine QE rfl rfl rfl rfl ?_ ?_
      ·exact QB rfl rfl rfl (Qm rfl)
      exact AllF.nil
     ·intro g3
      refine QC rfl rfl rfl (by rfl) rfl ?_
      refine WpL.nil ⟨rfl, rfl, ?_⟩
      apply GoR.nil [⟨10, 12, _, [0, 1, 2, 3, 4, 5, 6, 7, 8, 9], false⟩] (.inl ⟨_, .nil⟩) rfl rfl
      ·refine AllF.cons rfl rfl rfl rfl ?_ ?_
       ·exact Qd rfl rfl (Qm rfl)
       exact AllF.nil
      ·refine Qb (Qa ?_)
       refine Qv (vs := [_, _, _, _, _, _, _, _, _, _]) rfl rfl rfl (by rfl) ?_
       refine QC rfl rfl rfl (by rfl) rfl ?_
       refine WpL.nil (Qb (Qa (Qc rfl rfl (Qc rfl rfl (ZG rfl rfl rfl (by repeat' constructor) (by rfl) (by rfl) (ZS _) (by omega) (by omega) ?_)))))
       intro a38 c38
       rw [pxs_app, show acc.length + out.length = (acc ++ out).length from by simp]
       refine Qd rfl rfl (WpL.nil (Qb (Qb (Qa (Qk (o2 := 8) rfl rfl rfl (Qn rfl rfl (by rfl) ?_))))))
       refine QH rfl rfl rfl (WpL.nil (Qh rfl (fun h3 => ?_) (fun h3 => ?_)))
       ·refine Qb (Qa (Qc rfl rfl (Qc rfl rfl (QA rfl rfl rfl (Qo (by omega) (by omega)) ?_))))
        refine Qd rfl rfl (Qd rfl rfl (Qd rfl rfl (WpL.nil (Qg ?_))))
        apply RetQ.mk
        ·exact (Res.three rfl rfl rfl rfl)
        ·exact ⟨_, _, _, a38, c38, (if_pos h3).symm.trans hR, rfl, rfl⟩
        ·exact Take.ent' (by repeat' constructor)
       ·refine Wp.skip (Qb (Qa (Qk (o2 := 8) rfl rfl rfl (Qn rfl rfl (by rfl) ?_))))
        refine QH rfl rfl rfl (WpL.nil (Qh rfl (fun h4 => ?_) (fun h4 => ?_)))
        ·refine Qb ?_
         apply Q9 mixed [⟨48, _, []⟩, ⟨49, _, [0]⟩, ⟨4, _, []⟩, ⟨5, _, [2]⟩, ⟨6, _, [1, 3, 0, 2]⟩] rfl
         ·refine AllObs.mk ?_ ?_
          ·exact Qk (o2 := 9) rfl rfl rfl (Qm rfl)
          refine AllObs.mk ?_ ?_
          ·refine Qn rfl rfl (by rfl) ?_
           exact Qm rfl
          refine AllObs.mk ?_ ?_
          ·exact Qd rfl rfl (Qm rfl)
          refine AllObs.mk ?_ ?_
          ·exact Qd rfl rfl (Qm rfl)
          refine AllObs.mk ?_ ?_
          ·exact Qd rfl rfl (Qm rfl)
          exact AllObs.nil
         ·refine Qg ?_
          apply RetQ.mk
          ·exact (Res.three rfl rfl rfl rfl)
          ·exact ⟨[], _, _, none, 0, ((if_neg h3).trans (if_pos h4)).symm.trans hR, rfl, rfl⟩
          ·exact Ent.own_nil (Ent.nil _)
        ·refine Wp.skip (Qa (Qc rfl rfl (QA rfl rfl rfl (Qo (by omega) (by omega)) ?_)))
         refine Qd rfl rfl (WpL.nil ?_)
         have hR2 := (((if_neg h3).trans (if_neg h4)).symm.trans hR)
         refine Qp (⟨k + 1, n2, one2, row2, rows2, last2, e2, acc ++ out, a1, c1, a2, c2, a38, c38⟩ : RdX) ?_ ?_ (by ((repeat (first | exact Top.refl | refine Top.push rfl ?_)); done)) (by repeat (first | exact FrLe.nil | refine FrLe.cons rfl ?_)) ?_
         ·exact ⟨by simp only; omega, by simp only [List.length_append]; exact hinv2, by simp only; omega, hR2, hgd2⟩
         ·simp only; omega
         ·exact Take.ent' (by repeat' constructor)
   ·refine QO (Qb (Qa ?_))
    refine Qv (vs := [_, _, _, _, _, _, _, _, _, _]) rfl rfl rfl (by rfl) ?_
    refine Qi rfl rfl (by repeat' constructor) (rEnd_spec _ _ _ _ _ _ _ _ _ _ _ _ _ _ (by omega) (by omega) (by omega) (by omega) (by omega) (by omega) (by omega) (by omega) (by omega) (by omega) (by omega)) ?_
    rintro _ _ ⟨n2, one2, row2, rows2, last2, e2, out, a1, c1, a2, c2, a3, c3, hs2, rfl, rfl⟩
    simp only [Qr]
    have hol := endR_out (W := W) (H := H) hinv
    rw [← hs2] at hol
    dsimp only at hol
    rw [List.drop_eq_nil_of_le (by rw [Q0]; omega), readL, ← hs2] at hR
    dsimp only at hR
    refine Qc rfl rfl (QB rfl rfl rfl (QB rfl rfl rfl (XC rfl ?_)))
    intro g4
    refine QC rfl rfl rfl (by rfl) rfl ?_
    refine Qd rfl rfl (WpL.nil (Qb (Qb (Qa (Qk (o2 := 8) rfl rfl rfl (Qn rfl rfl (by rfl) ?_))))))
    refine QH rfl rfl rfl (WpL.nil (Qh rfl (fun h5 => ?_) (fun h5 => ?_)))
    ·refine Qb ?_
     apply Q9 mixed [⟨58, _, []⟩, ⟨59, _, [0]⟩, ⟨4, _, []⟩, ⟨5, _, [2]⟩, ⟨6, _, [1, 3, 0, 2]⟩] rfl
     ·refine AllObs.mk ?_ ?_
      ·exact Qk (o2 := 9) rfl rfl rfl (Qm rfl)
      refine AllObs.mk ?_ ?_
      ·refine Qn rfl rfl (by rfl) ?_
       exact Qm rfl
      refine AllObs.mk ?_ ?_
      ·exact Qd rfl rfl (Qm rfl)
      refine AllObs.mk ?_ ?_
      ·exact Qd rfl rfl (Qm rfl)
      refine AllObs.mk ?_ ?_
      ·exact Qd rfl rfl (Qm rfl)
      exact AllObs.nil
     ·refine Qg ?_
      apply RetQ.mk
      ·exact (Res.three rfl rfl rfl rfl)
      ·exact ⟨[], _, _, none, 0, (if_pos h5).symm.trans hR, rfl, rfl⟩
      ·exact Ent.own_nil (Ent.nil _)
    ·refine Wp.skip (Qb (Qa (Qc rfl rfl (Qc rfl rfl (ZG rfl rfl rfl (by repeat' constructor) (by rfl) (by rfl) (ZS _) (by omega) (by omega) ?_)))))
     intro a62 c62
     rw [pxs_app, show acc.length + out.length = (acc ++ out).length from by simp]
     refine Qc rfl rfl (Xu rfl Tryz.underlying9 rfl (Qd rfl rfl (Qd rfl rfl (Qd rfl rfl (WpL.nil (Qg ?_))))))
     apply RetQ.mk
     ·exact (Res.three rfl rfl rfl rfl)
     ·exact ⟨_, _, _, a62, c62, ((if_neg h5).symm.trans hR).trans rfl, by rw [show k = s.size by omega], rfl⟩
     ·exact Take.ent' (by repeat' constructor)

end Go.Proofs.YtggamdlpiejbiaaGreat
namespace Go.Proofs.YtggamdlpiejbiaaGreat
open Go.RowKit Go.Shelf


def Q3 (x m : Int) : Int := (if x < 0 then -(x + 1) else x) % m
theorem YB {x m : Int} (h : 1 ≤ m) : 0 ≤ Q3 x m ∧ Q3 x m < m := ⟨Int.emod_nonneg _ (by omega), Int.emod_lt_of_pos _ (by omega)⟩
theorem Yi (x m : Int) (h0 : -9223372036854775808 ≤ x) (h1 : x < 9223372036854775808) (hm : 1 ≤ m) : Fn Tryz.prog 33 #[.int .i64 x, .int .i64 m] [] (fun v l => v = .int .i64 (Q3 x m) ∧ l = []) := by
 refine Ql (vs := [.int .i64 x, .int .i64 m]) Tryz.func33 rfl Tryz.ntmps33 rfl (Qb (Qa (Qd rfl rfl (WpL.nil (Qb (Qb (Qa (Qc rfl rfl (Q7 rfl rfl rfl (WpL.nil (Qh rfl (fun h0 => ?_) (fun h0 => ?_))))))))))))
 ·refine Qa (Qc rfl rfl (QA rfl rfl rfl (Qo (by omega) (by omega)) ?_))
  refine s_neg rfl rfl (Qo (by omega) (by omega)) ?_
  refine Qd rfl rfl (WpL.nil (Qb (Qa (Qc rfl rfl (Qc rfl rfl (Yr rfl rfl rfl (by omega) (by omega) ?_))))))
  refine Qd rfl rfl (WpL.nil (Qg ?_))
  apply RetQ.mk
  ·exact (Res.one rfl rfl)
  ·exact ⟨by rw [Q3, if_pos h0], rfl⟩
  ·exact Ent.refl _
 ·refine Wp.skip (Qb (Qa (Qc rfl rfl (Qc rfl rfl (Yr rfl rfl rfl (by omega) (by omega) ?_)))))
  refine Qd rfl rfl (WpL.nil (Qg ?_))
  apply RetQ.mk
  ·exact (Res.one rfl rfl)
  ·exact ⟨by rw [Q3, if_neg h0], rfl⟩
  ·exact Ent.refl _


end Go.Proofs.YtggamdlpiejbiaaGreat
namespace Go.Proofs.YtggamdlpiejbiaaGreat
open Go.RowKit Go.Shelf


def Yd (n : Nat) : List Int := if n < 10 then [48 + (n : Int)] else Yd (n / 10) ++ [48 + ((n % 10 : Nat) : Int)]
termination_by n
decreasing_by omega
section
variable {K W H M : Int}
end


theorem pack_one {x : Int} (h : Z9 x) : Xv [x] = (281474976710656 + x, 0) := by
  unfold Z9 at h
  rw [packS_ok [x] (.inl rfl) (by intro n hn; simp at hn; subst hn; exact h)]
  exact Prod.ext (by simp [Yf]; omega) rfl
theorem pack_three {x y z : Int} (h : Z9 x) (h2 : Z9 y) (h3 : Z9 z) : Xv [x, y, z] = (((x * 65536 + y) * 65536 + z) + 3 * 281474976710656, 0) := by
  rw [packS_ok [x, y, z] (.inr rfl) (by intro n hn; simp at hn; rcases hn with rfl | rfl | rfl <;> assumption)]
  exact Prod.ext (by simp [Yf]) rfl
theorem unpack_pack {xs : List Int} (h : xs.length = 1 ∨ xs.length = 3) (hs : ∀ n ∈ xs, Z9 n) : Qs (Xv xs).1 = xs := by
  match xs, h with
  | [x], _ =>
    have hx := hs x (by simp)
    rw [pack_one hx]
    unfold Z9 at hx
    unfold Qs
    rw [if_neg (by simp only; omega), if_pos (by simp only; omega)]
    simp only
    congr 1
    omega
  | [x, y, z], _ =>
    have hx := hs x (by simp)
    have hy := hs y (by simp)
    have hz := hs z (by simp)
    rw [pack_three hx hy hz]
    unfold Z9 at hx hy hz
    unfold Qs
    rw [if_pos (by simp only; omega)]
    simp only [List.cons.injEq, and_true]
    refine ⟨by omega, by omega, by omega⟩
  | [_, _], h => simp at h
  | _ :: _ :: _ :: _ :: _, h => simp at h
/-- A pixel of a format. -/
def Can (ch M p : Int) : Prop := ((Qs p).length : Int) = ch ∧ (Xv (Qs p)).1 = p ∧ ∀ x ∈ Qs p, 0 ≤ x ∧ x ≤ M
section
variable {K W H M : Int}
def Yx : List Int → List Int
  | [] => []
  | [x] => Yd x.toNat
  | x :: y :: xs => Yd x.toNat ++ 32 :: Yx (y :: xs)
def nlB (K W : Int) (i : Nat) : Bool := decide (K > 1 ∨ (i : Int) % W = W - 1 ∨ (i : Int) % W % 70 = 69)
def pxB (K W : Int) (i : Nat) (p : Int) : List Int := Yx (Qs p) ++ if nlB K W i = true then [10] else []
def wrL (K W : Int) : Nat → List Int → List Int
  | _, [] => []
  | i, p :: l => pxB K W i p ++ wrL K W (i + 1) l
theorem wrL_snoc (p : Int) : ∀ (l : List Int) (i : Nat), wrL K W i (l ++ [p]) = wrL K W i l ++ pxB K W (i + l.length) p
  | [], i => by simp [wrL]
  | q :: l, i => by simp only [List.cons_append, wrL, wrL_snoc p l (i + 1), List.length_cons, List.append_assoc]; congr 3; omega
end

end Go.Proofs.YtggamdlpiejbiaaGreat
namespace Go.Proofs.YtggamdlpiejbiaaGreat
open Go.RowKit Go.Shelf


theorem X4 (a b : ByteArray) : QK (a ++ b) = QK a ++ QK b := by simp [QK, ByteArray.data_append]
theorem Yb {xs : List Int} (h : ∀ x ∈ xs, 0 ≤ x ∧ x ≤ 255) : QK (strOfNums xs) = xs := by
  unfold QK strOfNums
  simp only [List.map_map]
  conv => rhs; rw [← List.map_id xs]
  refine List.map_congr_left fun x hx => ?_
  have := h x hx
  simp only [Function.comp, UInt8.toNat_ofNat', id]
  omega
theorem Ys (xs : List Int) : (strOfNums xs).size = xs.length := by simp [strOfNums, ByteArray.size]
theorem Yp (n : Nat) : (Yd n).length ≤ n + 1 := by
  induction n using Nat.strongRecOn with
  | _ n ih =>
    rw [Yd]
    split
    · simp
    · have := ih (n / 10) (by omega)
      simp only [List.length_append, List.length_cons, List.length_nil]
      omega
theorem digs_rec {n : Int} (h : 10 ≤ n) : Yd n.toNat = Yd (n / 10).toNat ++ [48 + n % 10] := by
  rw [Yd, if_neg (by omega)]
  congr 1
  · congr 1; omega
  · congr 1; omega
theorem can_of_fit {p ch M : Int} (h0 : 0 ≤ p) (h1 : p < 18446744073709551616) (h : Yu p ch M) : Can ch M p := by
  obtain ⟨hf, hl, hs⟩ := h
  unfold YS at hf
  refine ⟨hl, ?_, fun x hx => ⟨?_, hs x hx⟩⟩
  · unfold Qs at hl ⊢
    split
    · rename_i h3
      rw [pack_three (by unfold Z9; omega) (by unfold Z9; omega) (by unfold Z9; omega)]
      simp only
      omega
    · rename_i h3
      split
      · rename_i h4
        rw [pack_one (by unfold Z9; omega)]
        simp only
        omega
      · rename_i h4
        rw [if_neg h3, if_neg h4] at hl
        simp at hl
        omega
  · unfold Qs at hx
    split at hx
    · simp at hx; omega
    · split at hx
      · simp at hx; omega
      · simp at hx

theorem Decimal_spec (n : Int) (h0 : 0 ≤ n) (h1 : n ≤ 65535) : Fn Tryz.prog 118 #[.int .i64 n] [] (fun v l => ∃ s, v = .string s ∧ QK s = Yd n.toNat ∧ l = []) := by
 refine Ql (vs := [.int .i64 n]) Tryz.func118 rfl Tryz.ntmps118 rfl (Qb (Qa (Qd rfl rfl (WpL.nil (Qb (Qa (Qc rfl rfl (Yr rfl rfl rfl (by omega) (by omega) ?_))))))))
 refine Qd rfl rfl (WpL.nil (Qb (Qb (Qa (Qc rfl rfl (Q7 rfl rfl rfl (WpL.nil (Qy rfl (by omega) ?_))))))))
 refine Wp.skip (Qb (Qa (Qc rfl rfl (QA rfl rfl rfl (Qo (by omega) (by omega)) ?_))))
 refine XT rfl Tryz.underlying3 rfl (w_u8 (by omega) (by omega)) ?_
 refine XX rfl rfl rfl rfl ?_
 intro g1
 rw [show ([.int .u8 (48 + n % 10)] : List Value) = Xm [48 + n % 10] from rfl]
 refine s_b2s (xs := [48 + n % 10]) rfl Tryz.underlying22 Tryz.underlying5 Tryz.underlying9 rfl rfl (Qd rfl rfl (WpL.nil (Qb (Qb (Qa (Qc rfl rfl (XM rfl rfl rfl (Qc rfl rfl (Qw (dj := 18) rfl (decide_eq_true (by omega)) ?_)))))))))
 refine Qf rfl rfl (Qc rfl rfl (Qf rfl rfl (Q7 rfl rfl rfl (Qq rfl rfl rfl (WpL.nil (Qh rfl (fun h1 => ?_) (fun h1 => ?_)))))))
 ·refine Qb (Qb (Qa (Qc rfl rfl (Q7 rfl rfl rfl (WpL.nil (Qy rfl (by omega) ?_))))))
  refine Wp.skip (Qb (Qa (Qc rfl rfl (Qd rfl rfl (WpL.nil (Qg ?_))))))
  apply RetQ.mk
  ·exact (Res.one rfl rfl)
  ·exact ⟨_, rfl, by rw [Yb (by intro x hx; simp at hx; omega), Yd, if_pos (by omega)]; congr 1; omega, rfl⟩
  ·exact Ent.nil _
 ·refine Wp.skip (Qb (Qa (Qc rfl rfl (YK rfl rfl rfl (by omega) (by omega) (Qo (by omega) (by omega)) ?_))))
  refine Qi rfl rfl (by repeat' constructor) (Decimal_spec (n / 10) (by omega) (by omega)) ?_
  rintro _ _ ⟨s1, rfl, hs1, rfl⟩
  simp only [Qr]
  have hsz1 : s1.size ≤ 65536 := by rw [← Q0, hs1]; have := Yp (n / 10).toNat; omega
  refine Qc rfl rfl (Yq rfl rfl rfl (by rw [Ys]; simp; omega) ?_)
  refine Qd rfl rfl (WpL.nil (Qg ?_))
  apply RetQ.mk
  ·exact (Res.one rfl rfl)
  ·exact ⟨_, rfl, by rw [X4, hs1, Yb (by intro x hx; simp at hx; omega), digs_rec (n := n) (by omega)], rfl⟩
  ·exact Ent.nil _
termination_by n.toNat
decreasing_by omega


theorem Zt (K W H M : Int) (hK : 1 ≤ K) (hK6 : K ≤ 6) : Fn Tryz.prog 57 #[.agg #[.int .i64 K, .int .i64 W, .int .i64 H, .int .i64 M]] [] (fun v l => v = .agg #[.int .i64 (QV K), .int .i64 M] ∧ l = []) := by
 refine Ql (vs := [.agg #[.int .i64 K, .int .i64 W, .int .i64 H, .int .i64 M]]) Tryz.func57 rfl Tryz.ntmps57 rfl (Qb (Qa (Q1 rfl rfl rfl ?_)))
 intro g1
 refine XC rfl ?_
 intro g2
 refine WpL.nil (Qb (Qb (Qa (Qk (o2 := 0) rfl rfl rfl (Qn rfl rfl (by rfl) ?_)))))
 refine QH rfl rfl rfl (Qc rfl rfl (QN rfl rfl rfl (fun hg1 => ?_) (fun hg1 => ?_)))
 ·have hg1 := of_decide_eq_false hg1
  refine Qk (o2 := 0) rfl rfl rfl (Qf rfl rfl (Qn rfl rfl (by rfl) ?_))
  refine Qf rfl rfl (QH rfl rfl rfl (Qu rfl rfl rfl (WpL.nil (Qh rfl (fun h0 => ?_) (fun h0 => ?_)))))
  ·refine Qb (Qa (Qk (o2 := 3) rfl rfl rfl (Qn rfl rfl (by rfl) ?_)))
   refine Xr rfl rfl ?_
   refine QC rfl rfl rfl (by rfl) rfl ?_
   refine WpL.nil (Qg ?_)
   apply RetQ.mk
   ·exact (Xy rfl rfl (by rfl))
   ·exact ⟨by rw [show QV K = 3 from if_pos (by omega)], rfl⟩
   ·exact Ent.nil _
  ·refine Wp.skip (Qb (Qa (Qk (o2 := 3) rfl rfl rfl (Qn rfl rfl (by rfl) ?_))))
   refine Xr rfl rfl ?_
   refine QC rfl rfl rfl (by rfl) rfl ?_
   refine WpL.nil (Qg ?_)
   apply RetQ.mk
   ·exact (Xy rfl rfl (by rfl))
   ·exact ⟨by rw [show QV K = 1 from if_neg (by omega)], rfl⟩
   ·exact Ent.nil _
 ·have hg1 := of_decide_eq_true hg1
  refine Qe rfl rfl rfl (by decide) (Qe rfl rfl rfl (by decide) (Qq rfl rfl rfl (WpL.nil (Xj rfl (Qb (Qa (Qk (o2 := 3) rfl rfl rfl (Qn rfl rfl (by rfl) ?_))))))))
  refine Xr rfl rfl ?_
  refine QC rfl rfl rfl (by rfl) rfl ?_
  refine WpL.nil (Qg ?_)
  apply RetQ.mk
  ·exact (Xy rfl rfl (by rfl))
  ·exact ⟨by rw [show QV K = 3 from if_pos (by omega)], rfl⟩
  ·exact Ent.nil _

theorem pack_bd {xs : List Int} (h : xs.length = 1 ∨ xs.length = 3) (hs : ∀ n ∈ xs, Z9 n) : 0 ≤ (Xv xs).1 ∧ (Xv xs).1 < 18446744073709551616 := by
  have := packF_all (l := xs) (by omega) hs
  rw [packS_ok xs h hs]
  simp only
  omega
end Go.Proofs.YtggamdlpiejbiaaGreat
namespace Go.Proofs.YtggamdlpiejbiaaGreat
open Go.RowKit Go.Shelf


/-- A number's digits, the lowest first. -/
def Zs (b n : Nat) : List Int := if _h : n < b ∨ b < 2 then [((n % b : Nat) : Int)] else ((n % b : Nat) : Int) :: Zs b (n / b)
termination_by n
decreasing_by exact Nat.div_lt_self (by omega) (by omega)
theorem lowD_lt {b n : Nat} (h : n < b) : Zs b n = [((n % b : Nat) : Int)] := by rw [Zs, dif_pos (.inl h)]
theorem lowD_ge {b n : Nat} (h : b ≤ n) (hb : 2 ≤ b) : Zs b n = ((n % b : Nat) : Int) :: Zs b (n / b) := by rw [Zs, dif_neg (by omega)]
theorem lowD_head (b n : Nat) : ∃ t, Zs b n = ((n % b : Nat) : Int) :: t := by
  rw [Zs]
  split
  · exact ⟨_, rfl⟩
  · exact ⟨_, rfl⟩
theorem lowD_bd {b : Nat} (hb : 0 < b) (n : Nat) : ∀ x ∈ Zs b n, 0 ≤ x ∧ x < b := by
  induction n using Nat.strongRecOn with
  | _ n ih =>
    intro x hx
    have hm := Nat.mod_lt n hb
    rw [Zs] at hx
    split at hx
    · simp only [List.mem_singleton] at hx; subst hx; omega
    · rcases List.mem_cons.1 hx with rfl | hx
      · omega
      · exact ih (n / b) (Nat.div_lt_self (by omega) (by omega)) x hx
theorem drop_at0 {xs : List Int} {k : Nat} {x : Int} {t : List Int} (h : xs.drop k = x :: t) : ∃ hk : k < xs.length, xs[k] = x ∧ xs.drop (k + 1) = t := by
  have hk : k < xs.length := by
    have := congrArg List.length h
    simp at this; omega
  rw [List.drop_eq_getElem_cons hk] at h
  injection h with h1 h2
  exact ⟨hk, h1, h2⟩
theorem lowD_digs (n : Nat) : Yd n = ((Zs 10 n).map fun x => 48 + x).reverse := by
  induction n using Nat.strongRecOn with
  | _ n ih =>
    by_cases h : n < 10
    · rw [lowD_lt h, Yd, if_pos (by omega)]
      simp; omega
    · rw [lowD_ge (by omega) (by omega), Yd, if_neg (by omega), ih (n / 10) (by omega)]
      simp
theorem lowD_len20 {b n : Nat} (hb : 10 ≤ b) (k : Nat) (h : n < 10 ^ (k + 1)) : (Zs b n).length ≤ k + 1 := by
  induction k generalizing n with
  | zero =>
    rw [lowD_lt (by omega)]; simp
  | succ k ih =>
    by_cases h2 : n < b
    · rw [lowD_lt h2]; simp
    · rw [lowD_ge (by omega) (by omega)]
      have : n / b < 10 ^ (k + 1) := by
        apply Nat.div_lt_of_lt_mul
        calc n < 10 ^ (k + 1 + 1) := h
          _ = 10 * 10 ^ (k + 1) := by rw [Nat.pow_succ]; omega
          _ ≤ b * 10 ^ (k + 1) := Nat.mul_le_mul_right _ hb
      have := ih this
      simp; omega
structure DgX where
  (k n : Nat) (m : List HP)

theorem digitsF_spec (b n : Nat) (hb : 2 ≤ b) (hb2 : b ≤ 256) (hn : n < 18446744073709551616) (g1 g2 y : Nat) (J Jx : Nat → List HP → Prop) (hY : ∀ k (h : k < (Zs b n).length) m, J k m → Yld Tryz.prog y ([.int .u8 (Zs b n)[k]] : List Value).toArray m (rdR J Jx k)) (m0 : List HP) (h0 : J 0 m0) : Fn Tryz.prog 197 #[.func (.yield y) #[] #[], .pointer (some ⟨g1, 0, none⟩), .pointer (some ⟨g2, 0, none⟩)] (QJ g1 [.int .u64 (n : Int)] 91 :: QJ g2 [.int .u64 (b : Int)] 91 :: m0) (fun _ l => ∃ m', (J (Zs b n).length m' ∨ ∃ k, k < (Zs b n).length ∧ Jx k m') ∧ l = m') := by
 refine Ql (vs := [.func (.yield y) #[] #[], .pointer (some ⟨g1, 0, none⟩), .pointer (some ⟨g2, 0, none⟩)]) Tryz.func197 rfl Tryz.ntmps197 rfl ?_
 refine Wp.block ?_
 refine Wp.loopD (σ := DgX) (fun x => J x.k x.m ∧ (Zs b n).drop x.k = Zs b x.n ∧ x.n < 18446744073709551616) [4, 5, 6, 7, 8, 9, 10, 11, 12, 13, 14, 15, 16, 17] (fun x => []) (fun x => (QJ g1 [.int .u64 ((x.n : Nat) : Int)] 91 :: QJ g2 [.int .u64 (b : Int)] 91 :: x.m)) (fun x => x.n) ⟨0, n, m0⟩ ?_ (by repeat (exact FrLe.nil)) ?_ ?_
 ·exact ⟨h0, rfl, hn⟩
 ·exact Ent.refl _
 ·rintro ⟨k, n1, m1⟩ ⟨hJ, hd, hn1⟩
  dsimp only at hJ hd hn1 ⊢
  obtain ⟨t1, ht1⟩ := lowD_head b n1
  obtain ⟨hk, hxk, hdk⟩ := drop_at0 (hd.trans ht1)
  have hbpos : (0 : Int) < (b : Int) := by omega
  have hmod := Nat.mod_lt n1 (show 0 < b by omega)
  have hY1 := hY k hk m1 hJ
  rw [hxk] at hY1
  refine Qb (Qb (Qa (Qc rfl rfl (Qn rfl rfl (by rfl) ?_))))
  refine Qn rfl rfl (by rfl) ?_
  refine Yr rfl rfl rfl (by omega) (by omega) ?_
  rw [show ((n1 : Int) % (b : Int)) = ((n1 % b : Nat) : Int) from rfl]
  refine XT rfl Tryz.underlying91 rfl (w_u8 (by omega) (by omega)) ?_
  refine s_yield rfl rfl rfl rfl (by repeat (first | exact Take.all | apply Take.skip)) (hY1) ?_
  rintro v m' (⟨rfl, hm'⟩ | ⟨rfl, hm'⟩)
  ·simp only [Qr]
   refine Qc rfl rfl (Qf rfl rfl (Qn rfl rfl (by rfl) ?_))
   refine Qf rfl rfl (Qn rfl rfl (by rfl) ?_)
   refine Qf rfl rfl (s_ge rfl rfl rfl (Qq rfl rfl rfl (WpL.nil (Qh rfl (fun h1 => ?_) (fun h1 => ?_)))))
   ·refine Wp.skip (Wp.block ?_)
    refine Qa (Qn rfl rfl (by rfl) ?_)
    refine Qn rfl rfl (by rfl) ?_
    refine YK rfl rfl rfl (by omega) (by omega) (Z8 (Int.ediv_nonneg (by omega) (by omega)) (by have := Nat.div_le_self n1 b; have e : ((n1 : Int) / (b : Int)) = ((n1 / b : Nat) : Int) := rfl; omega)) ?_
    refine QW rfl rfl rfl (WpL.nil (Qp (Q := fun _ _ _ _ => False) (⟨k + 1, n1 / b, m'⟩ : DgX) ?_ ?_ (by ((repeat (first | exact Top.refl | refine Top.push rfl ?_)); done)) (by repeat (exact FrLe.nil)) ?_))
    ·refine ⟨hm', ?_, Nat.lt_of_le_of_lt (Nat.div_le_self _ _) hn1⟩
     rw [hdk]
     rw [lowD_ge (by omega) hb] at ht1
     injection ht1 with _ ht1
     exact ht1.symm
    ·exact Nat.div_lt_self (by omega) (by omega)
    ·exact Ent.refl _
   ·refine QO ?_
    apply Y8
    ·exact (Ya rfl)
    ·exact ⟨m', .inl (by rw [show (Zs b n).length = k + 1 from by have e1 := congrArg List.length hdk; rw [lowD_lt (by omega)] at ht1; injection ht1 with _ ht1; rw [← ht1] at e1; simp at e1; omega]; exact hm'), rfl⟩
    ·(repeat (first | exact Ent.refl _ | refine Ent.drop ?_))
  ·simp only [Qr]
   refine Qc rfl rfl (Qe rfl rfl rfl (by decide) (Qe rfl rfl rfl (by decide) (Qe rfl rfl rfl (by decide) (Qu rfl rfl rfl (WpL.nil (QZ rfl (QO ?_)))))))
   apply Y8
   ·exact (Ya rfl)
   ·exact ⟨m', .inr ⟨k, hk, hm'⟩, rfl⟩
   ·(repeat (first | exact Ent.refl _ | refine Ent.drop ?_))


structure RvX where
  (k : Nat) (ys : List Int)
def revK (xs : List Int) (k : Nat) (ys : List Int) : Prop := ys.length = xs.length ∧ ∀ i, i < xs.length → ys[i]? = if i < k ∨ xs.length ≤ i + k then xs[xs.length - 1 - i]? else xs[i]?
theorem revK_zero (xs : List Int) : revK xs 0 xs := ⟨rfl, fun i hi => by rw [if_neg (by omega)]⟩
theorem revK_done {xs ys : List Int} {k : Nat} (h : revK xs k ys) (hk : xs.length ≤ 2 * k + 1) : ys = xs.reverse := by
  apply List.ext_getElem?
  intro i
  by_cases hi : i < xs.length
  · rw [h.2 i hi, List.getElem?_reverse hi]
    split
    · rfl
    · rename_i hc
      rw [show xs.length - 1 - i = i by omega]
  · rw [List.getElem?_eq_none (by rw [h.1]; omega), List.getElem?_eq_none (by simp; omega)]
theorem revK_step {xs ys : List Int} {k : Nat} (h : revK xs k ys) (hk : 2 * k + 1 < xs.length) (h1 : xs.length - 1 - k < ys.length) (h2 : k < ys.length) : revK xs (k + 1) ((ys.set k ys[xs.length - 1 - k]).set (xs.length - 1 - k) ys[k]) := by
  have e1 : ys[k] = xs[k]'(by omega) := by
    have := h.2 k (by omega)
    rw [if_neg (by omega), List.getElem?_eq_getElem h2, List.getElem?_eq_getElem (by omega)] at this
    exact Option.some.inj this
  have e2 : ys[xs.length - 1 - k] = xs[xs.length - 1 - k]'(by omega) := by
    have := h.2 (xs.length - 1 - k) (by omega)
    rw [if_neg (by omega), List.getElem?_eq_getElem h1, List.getElem?_eq_getElem (by omega)] at this
    exact Option.some.inj this
  refine ⟨by simp [h.1], fun i hi => ?_⟩
  rw [List.getElem?_set, List.getElem?_set]
  simp only [List.length_set]
  by_cases a : xs.length - 1 - k = i
  · subst a
    rw [if_pos rfl, if_pos h1, if_pos (by omega), e1, show xs.length - 1 - (xs.length - 1 - k) = k by omega, List.getElem?_eq_getElem (by omega)]
  · rw [if_neg a]
    by_cases b : k = i
    · subst b
      rw [if_pos rfl, if_pos h2, if_pos (by omega), e2, List.getElem?_eq_getElem (by omega)]
    · rw [if_neg b, h.2 i hi]
      by_cases c : i < k ∨ xs.length ≤ i + k
      · rw [if_pos c, if_pos (by omega)]
      · rw [if_neg c, if_neg (by omega)]
theorem set_map {α : Type} (f : Int → α) (xs : List Int) (k : Nat) (x : Int) : (xs.map f).set k (f x) = (xs.set k x).map f := (List.map_set ..).symm
theorem Vp (xs : List Int) (k : Nat) (x : Int) : (Xm xs).set k (.int .u8 x) = Xm (xs.set k x) := set_map _ xs k x
theorem RevB_spec (a : Option Addr) (c : Nat) (xs : List Int) (hm : xs.length ≤ 140737488355328) : Fn Tryz.prog 178 #[.slice a xs.length c] [QU 5 1 a c xs.length (Xm xs)] (fun _ l => l = [QU 5 1 a c xs.length (Xm xs.reverse)]) := by
 refine Ql (vs := [.slice a xs.length c]) Tryz.func178 rfl Tryz.ntmps178 rfl (Qb (Qa (Qc rfl rfl (QP rfl rfl (Zc rfl rfl rfl (Qo (by omega) (by omega)) ?_)))))
 refine Qd rfl rfl (Qd rfl rfl (WpL.nil (Wp.block ?_)))
 refine Wp.loopD (σ := RvX) (fun x => 2 * x.k ≤ xs.length ∧ revK xs x.k x.ys) [2, 3, 7, 8, 9, 10, 11, 12, 13, 14, 15, 16, 17, 18, 19, 20, 21, 22, 23, 24, 25, 26, 27] (fun x => [(2, .int .i64 (x.k : Int)), (3, .int .i64 ((xs.length : Int) - 1 - x.k))]) (fun x => [QU 5 1 a c xs.length (Xm x.ys)]) (fun x => xs.length - x.k) ⟨0, xs⟩ ?_ (FrLe.cons rfl (FrLe.cons (by simp [lk]) FrLe.nil)) ?_ ?_
 ·exact ⟨by simp, revK_zero xs⟩
 ·exact Ent.refl _
 ·rintro ⟨k, ys⟩ ⟨hk, hr⟩
  dsimp only at hk hr ⊢
  have hyl := hr.1
  refine Qb (Qb (Qa (Qc rfl rfl (Qc rfl rfl (Q7 rfl rfl rfl (WpL.nil (Qh rfl (fun h1 => ?_) (fun h1 => ?_))))))))
  ·have h1 : xs.length - 1 - k < ys.length := by omega
   have h2 : k < ys.length := by omega
   refine Wp.skip (Qb (Wp.block ?_))
   apply Xa (fB := []) mixed [(13, false), (1, false)] (by kernel_rfl)
   apply Q4 [⟨0, 14, _, [], false⟩, ⟨1, 15, _, [], false⟩, ⟨2, 16, _, [], true⟩, ⟨3, 17, _, [], true⟩, ⟨4, 18, _, [], false⟩, ⟨5, 19, _, [], false⟩, ⟨6, 20, _, [4, 5], false⟩, ⟨7, 21, _, [6], false⟩, ⟨8, 22, _, [], false⟩, ⟨9, 23, _, [], false⟩, ⟨10, 24, _, [8, 9], false⟩, ⟨11, 25, _, [10], false⟩, ⟨12, 26, _, [0, 1, 4, 5, 6, 7, 11], false⟩] [] [0, 1, 4, 5, 6, 7, 8, 9, 10, 11, 12] [27, 16, 17] (.inl ⟨_, .nil⟩) rfl rfl rfl (by kernel_rfl) rfl rfl rfl
   ·refine AllF.cons rfl rfl rfl rfl ?_ ?_
    ·exact Qc rfl rfl (Qm rfl)
    refine AllF.cons rfl rfl rfl rfl ?_ ?_
    ·exact Qc rfl rfl (Qm rfl)
    refine QE rfl rfl rfl rfl ?_ ?_
    ·exact Qc rfl rfl (Qm rfl)
    refine QE rfl rfl rfl rfl ?_ ?_
    ·exact Qc rfl rfl (Qm rfl)
    refine AllF.cons rfl rfl rfl rfl ?_ ?_
    ·exact Qc rfl rfl (Qm rfl)
    refine AllF.cons rfl rfl rfl rfl ?_ ?_
    ·exact Qc rfl rfl (Qm rfl)
    refine AllF.cons rfl rfl rfl rfl ?_ ?_
    ·refine Xd (xs.length - 1 - k) rfl rfl rfl QX (by exact Take.ent' (by repeat' constructor)) (by omega) (by omega) (by rw [Xc]; omega) ?_
     exact Qm rfl
    refine AllF.cons rfl rfl rfl rfl ?_ ?_
    ·refine Xh rfl rfl QX (by exact Take.ent' (by repeat' constructor)) (YR ys h1) ?_
     exact Qm rfl
    refine AllF.cons rfl rfl rfl rfl ?_ ?_
    ·exact Qc rfl rfl (Qm rfl)
    refine AllF.cons rfl rfl rfl rfl ?_ ?_
    ·exact Qc rfl rfl (Qm rfl)
    refine AllF.cons rfl rfl rfl rfl ?_ ?_
    ·refine Xd k rfl rfl rfl QX (by exact Take.ent' (by repeat' constructor)) rfl (by omega) (by rw [Xc]; omega) ?_
     exact Qm rfl
    refine AllF.cons rfl rfl rfl rfl ?_ ?_
    ·refine Xh rfl rfl QX (by exact Take.ent' (by repeat' constructor)) (YR ys h2) ?_
     exact Qm rfl
    refine AllF.cons rfl rfl rfl rfl ?_ ?_
    ·refine Xd k rfl rfl rfl QX (by exact Take.ent' (by repeat' constructor)) rfl (by omega) (by rw [Xc]; omega) ?_
     exact Qm rfl
    exact AllF.nil
   ·refine s_sto rfl rfl rfl (by repeat' constructor) (by rw [Xc]; omega) ?_
    refine WpL.nil ⟨rfl, rfl, ?_⟩
    apply Q4 [⟨14, 27, _, [0, 1, 2, 3, 4, 5, 6, 7, 8, 9, 10, 11, 12, 13], false⟩] [2, 3] [2, 3, 14] [] (.inl ⟨_, .nil⟩) rfl rfl rfl (by kernel_rfl) rfl rfl rfl
    ·refine AllF.cons rfl rfl rfl rfl ?_ ?_
     ·refine Xd (xs.length - 1 - k) rfl rfl rfl QX (by exact Take.ent' (by repeat' constructor)) (by omega) (by omega) (by rw [List.length_set, Xc]; omega) ?_
      exact Qm rfl
     exact AllF.nil
    ·refine s_sto rfl rfl rfl (by repeat' constructor) (by rw [List.length_set, Xc]; omega) ?_
     refine WpL.nil ⟨rfl, rfl, ?_⟩
     apply GoR.nil [] (.inr rfl) rfl rfl
     ·exact AllF.nil
     ·refine Qa (Qc rfl rfl (QA rfl rfl rfl (Qo (by omega) (by omega)) ?_))
      refine Qc rfl rfl (Zc rfl rfl rfl (Qo (by omega) (by omega)) ?_)
      refine Qd rfl rfl (Qd rfl rfl (WpL.nil (Qp (⟨k + 1, (ys.set k (ys[xs.length - 1 - k]'h1)).set (xs.length - 1 - k) (ys[k]'h2)⟩ : RvX) ?_ ?_ (by ((repeat (first | exact Top.refl | refine Top.push rfl ?_)); done)) (FrLe.cons rfl (FrLe.cons (congrArg (fun x => some (Value.int .i64 x)) (show ((xs.length : Int) - 1 - (k : Int) - 1) = (xs.length : Int) - 1 - ((k + 1 : Nat) : Int) by omega)) FrLe.nil)) ?_)))
      ·exact ⟨by simp only; omega, revK_step hr (by omega) h1 h2⟩
      ·simp only; omega
      ·rw [Vp, Vp]; exact Ent.refl _
  ·refine QO ?_
   have he := revK_done hr (by omega)
   subst he
   apply Y8
   ·exact (Ya rfl)
   ·exact rfl
   ·exact Ent.refl _

theorem digitsM_spec (n b : Int) : Fn Tryz.prog 177 #[.int .u64 n, .int .u64 b] [] (fun v l => ∃ g1 g2, v = .func (.func 197) #[] #[.pointer (some ⟨g1, 0, none⟩), .pointer (some ⟨g2, 0, none⟩)] ∧ l = [QJ g1 [.int .u64 n] 91, QJ g2 [.int .u64 b] 91]) := by
 refine Ql (vs := [.int .u64 n, .int .u64 b]) Tryz.func177 rfl Tryz.ntmps177 rfl (Qb (Qa (Q1 rfl rfl rfl ?_)))
 intro g1
 refine Q1 rfl rfl rfl ?_
 intro g2
 refine Qd rfl rfl (WpL.nil (Qb (Qa (s_mkf rfl (fun a hh => Yk hh _ _ rfl) ?_))))
 refine Qd rfl rfl (WpL.nil (Qg ?_))
 apply RetQ.mk
 ·exact (Res.one rfl rfl)
 ·exact ⟨_, _, rfl, rfl⟩
 ·exact Take.ent' (by repeat' constructor)


theorem map_take_snoc {f : Int → Int} (xs : List Int) {k : Nat} (h : k < xs.length) : (xs.take k).map f ++ [f xs[k]] = (xs.take (k + 1)).map f := by
  rw [Xk xs h, List.map_append]; rfl
theorem digs_bd (n : Nat) : ∀ x ∈ Yd n, 48 ≤ x ∧ x ≤ 57 := by
  intro x hx
  rw [lowD_digs, List.mem_reverse, List.mem_map] at hx
  obtain ⟨y, hy, rfl⟩ := hx
  have := lowD_bd (b := 10) (by omega) n y hy
  omega

theorem Zy (n : Int) (h0 : 0 ≤ n) (h1 : n < 9223372036854775808) : Fn Tryz.prog 135 #[.int .i64 n] [] (fun v l => v = .string (strOfNums (Yd n.toNat)) ∧ l = []) := by
 have hlen := lowD_len20 (b := 10) (n := n.toNat) (by omega) 18 (by omega)
 refine Ql (vs := [.int .i64 n]) Tryz.func135 rfl Tryz.ntmps135 rfl (Qb (Qa (Qd rfl rfl (WpL.nil (Qb (Qa (Qc rfl rfl (XT rfl Tryz.underlying3 rfl (Z8 (by omega) (by omega)) ?_))))))))
 refine Qd rfl rfl (WpL.nil (Qb (Qa (XC rfl ?_))))
 intro g3
 refine WpL.nil (Qb (Qb (Qa (Qc rfl rfl (Q7 rfl rfl rfl (WpL.nil (Qy rfl (by omega) ?_)))))))
 refine Wp.skip (Qb (Qb (Qa (Qc rfl rfl (Qi rfl rfl (by repeat' constructor) (digitsM_spec _ _) ?_)))))
 rintro _ _ ⟨g1, g2, rfl, rfl⟩
 simp only [Qr]
 refine WpL.nil (Wp.block ?_)
 refine Wp.rangeF (encs := fun (x : Int) => [Value.int .u8 x]) (xs := Zs 10 n.toNat) (QU := [QJ g1 [.int .u64 n] 91, QJ g2 [.int .u64 10] 91]) (own' := []) (m0 := [QJ g3 [.slice none 0 0] 22, QU 5 1 none 0 0 []]) rfl rfl (fun y J Jx hY m h0 => (show n = ((n.toNat : Nat) : Int) by omega) ▸ digitsF_spec 10 n.toNat (by omega) (by omega) (by omega) g1 g2 y J Jx hY m h0) (fun _ => rfl) rfl (fun k m => ∃ a c, m = [QJ g3 [.slice a k c] 22, QU 5 1 a c k (Xm (((Zs 10 n.toNat).take k).map fun x => 48 + x))]) (fun _ _ _ => False) ?_ ?_ ?_ ?_ ?_
 ·exact ⟨none, 0, rfl⟩
 ·exact (Ent.own_nil (T := 5) (s := 1) (Ent.refl _)).trans (Take.ent' (by repeat' constructor))
 ·intro y k hk m hm
  obtain ⟨a1, c1, rfl⟩ := hm
  refine Qa (Qd rfl rfl (WpL.nil (⟨rfl, rfl, ?_⟩)))
  have hx := lowD_bd (b := 10) (by omega) n.toNat (Zs 10 n.toNat)[k] (List.getElem_mem hk)
  refine Wp.block ?_
  refine Qa (Qn rfl rfl (by rfl) ?_)
  refine Qc rfl rfl (QA rfl rfl rfl (w_u8 (by omega) (by omega)) ?_)
  refine XX rfl rfl rfl rfl ?_
  intro g2
  refine XF rfl rfl rfl (by repeat' constructor) (by rfl) (by rfl) (by rfl) (by rfl) (by omega) (by omega) ?_
  intro a19 c19
  refine QW rfl rfl rfl (WpL.nil ?_)
  rw [ZI, map_take_snoc (f := fun x => 48 + x) _ hk]
  exact ⟨_, ⟨a19, c19, rfl⟩, by exact Take.ent' (by repeat' constructor)⟩
 ·intro q1 m hm
  obtain ⟨a1, c1, rfl⟩ := hm
  simp only [Qr]
  rw [List.take_length, show (Zs 10 n.toNat).length = ((Zs 10 n.toNat).map fun x => 48 + x).length from by simp]
  refine Qb (Qb (Qa (Qc rfl rfl (Q7 rfl rfl rfl (WpL.nil (Qy rfl (by omega) ?_))))))
  refine Wp.skip (Qb (Qa (Qn rfl rfl (by rfl) ?_)))
  refine Qi rfl rfl (by repeat' constructor) (RevB_spec _ _ _ (by simp; omega)) ?_
  rintro _ _ rfl
  simp only [Qr]
  refine WpL.nil (Qb (Qa (Qn rfl rfl (by rfl) ?_)))
  rw [← lowD_digs]
  refine s_b2so rfl Tryz.underlying22 Tryz.underlying5 Tryz.underlying9 rfl (by repeat' constructor) ?_
  refine Qd rfl rfl (WpL.nil (Qg ?_))
  apply RetQ.mkR [q1] rfl (by repeat' constructor)
  ·exact (Res.one rfl rfl)
  ·exact ⟨rfl, rfl⟩
  ·exact Ent.nil _
 ·exact fun _ _ _ _ _ h => h.elim


end Go.Proofs.YtggamdlpiejbiaaGreat
namespace Go.Proofs.YtggamdlpiejbiaaGreat
open Go.RowKit Go.Shelf

theorem take_all {xs : List Int} {k : Nat} {mx : Int} (h : ∀ x ∈ xs.take k, x ≤ mx) (hlt : k < xs.length) (hx : xs[k] ≤ mx) : ∀ x ∈ xs.take (k + 1), x ≤ mx := by
  intro x hxm
  rw [Xk xs hlt] at hxm
  rcases List.mem_append.1 hxm with hxm | hxm
  · exact h x hxm
  · have := List.mem_singleton.1 hxm; subst this; exact hx

theorem rFits_spec (p ch mx : Int) (h0 : 0 ≤ p) (h1 : p < 18446744073709551616) : Fn Tryz.prog 98 #[.int .u64 p, .agg #[.int .i64 ch, .int .i64 mx]] [] (fun v l => v = .bool (decide (Yu p ch mx)) ∧ l = []) := by
 have hul := XD p
 refine Ql (vs := [.int .u64 p, .agg #[.int .i64 ch, .int .i64 mx]]) Tryz.func98 rfl Tryz.ntmps98 rfl (Qb (Qa (Q1 rfl rfl rfl ?_)))
 intro g1
 refine Qd rfl rfl (WpL.nil (Qb (Qa (Qc rfl rfl (Qi rfl rfl (by repeat' constructor) (Vi _ (by omega) (by omega)) ?_)))))
 rintro _ _ ⟨A1, a1, c1, rfl, rfl, hA1, hn1⟩
 simp only [Qr]
 refine Qd rfl rfl (WpL.nil (Qb (Qb (Qa (Qd rfl rfl (WpL.nil (Wp.block ?_)))))))
 refine Wp.loopD (σ := Nat) (fun k => k ≤ (Qs p).length ∧ ∀ x ∈ (Qs p).take k, x ≤ mx) [4, 6, 10, 11, 12, 13, 14, 15, 16, 17, 18, 19, 20, 21, 22] (fun k => [(6, .int .i64 (k : Int))]) (fun k => [A1, QJ g1 [.int .i64 ch, .int .i64 mx] 48]) (fun k => (Qs p).length - k) 0 ?_ (by repeat (first | exact FrLe.nil | refine FrLe.cons rfl ?_)) ?_ ?_
 ·exact ⟨Nat.zero_le _, by simp⟩
 ·exact Ent.refl _
 ·rintro k ⟨hk, hall⟩
  refine Qb (Qb (Qa (Qc rfl rfl (Qc rfl rfl (QP rfl rfl (Q7 rfl rfl rfl (WpL.nil (Qh rfl (fun h1 => ?_) (fun h1 => ?_)))))))))
  ·have hlt : k < (Qs p).length := by omega
   refine Wp.skip (Qb (Wp.block ?_))
   refine Qb ?_
   apply Q9 mixed [⟨16, _, []⟩, ⟨17, _, []⟩, ⟨18, _, [0, 1]⟩, ⟨19, _, [2]⟩, ⟨20, _, []⟩, ⟨21, _, [4]⟩, ⟨22, _, [3, 5]⟩] rfl
   ·refine AllObs.mk ?_ ?_
    ·exact Qc rfl rfl (Qm rfl)
    refine AllObs.mk ?_ ?_
    ·exact Qc rfl rfl (Qm rfl)
    refine AllObs.mk ?_ ?_
    ·refine Xd k rfl rfl rfl hA1 (by exact Take.ent' (by repeat' constructor)) rfl (by omega) (by rw [Xe]; omega) ?_
     exact Qm rfl
    refine AllObs.mk ?_ ?_
    ·refine Xh rfl rfl hA1 (by exact Take.ent' (by repeat' constructor)) (Xw (Qs p) hlt) ?_
     exact Qm rfl
    refine AllObs.mk ?_ ?_
    ·exact Qk (o2 := 1) rfl rfl rfl (Qm rfl)
    refine AllObs.mk ?_ ?_
    ·refine Qn rfl rfl (by rfl) ?_
     exact Qm rfl
    refine AllObs.mk ?_ ?_
    ·exact XM rfl rfl rfl (Qm rfl)
    exact AllObs.nil
   ·refine Qh rfl (fun h2 => ?_) (fun h2 => ?_)
    ·refine Qb (Qa (Qd rfl rfl (WpL.nil (Qg ?_))))
     skip
     apply RetQ.mk
     ·exact (Res.one rfl rfl)
     ·exact ⟨congrArg Value.bool (df (fun hf => by have := hf.2.2 _ (List.getElem_mem hlt); omega)), rfl⟩
     ·exact Ent.nil _
    ·refine Wp.skip (Qa (Qc rfl rfl (QA rfl rfl rfl (Qo (by omega) (by omega)) ?_)))
     refine Qd rfl rfl (WpL.nil (Qp (k + 1) ?_ ?_ (by ((repeat (first | exact Top.refl | refine Top.push rfl ?_)); done)) (by repeat (first | exact FrLe.nil | refine FrLe.cons rfl ?_)) ?_))
     ·exact ⟨by omega, take_all hall hlt (by omega)⟩
     ·omega
     ·exact Ent.refl _
  ·refine QO (Qb (Qa ?_))
   refine Qv (vs := [_, _]) rfl rfl rfl (by rfl) ?_
   refine Qi rfl rfl (by repeat' constructor) (rFormat1_spec _ _) ?_
   rintro _ _ ⟨rfl, rfl⟩
   simp only [Qr]
   refine Qd rfl rfl (WpL.nil (Qb (Qa (Qc rfl rfl (Qc rfl rfl (QN rfl rfl rfl (fun hg1 => ?_) (fun hg1 => ?_)))))))
   ·have hg1 := of_decide_eq_true hg1
    refine Qc rfl rfl (Qf rfl rfl (QP rfl rfl (Qf rfl rfl (Qk (o2 := 0) rfl rfl rfl (Qf rfl rfl (Qn rfl rfl (by rfl) ?_))))))
    refine Qf rfl rfl (QH rfl rfl rfl (Qq rfl rfl rfl (Qd rfl rfl (WpL.nil (Qg ?_)))))
    skip
    apply RetQ.mk
    ·exact (Res.one rfl rfl)
    ·refine ⟨congrArg Value.bool ?_, rfl⟩
     have hke : k = (Qs p).length := by omega
     rw [hke, List.take_length] at hall
     exact dd ⟨fun h => ⟨by assumption, h, hall⟩, fun h => h.2.1⟩
    ·exact Ent.nil _
   ·have hg1 := of_decide_eq_false hg1
    refine Qe rfl rfl rfl (by decide) (Qe rfl rfl rfl (by decide) (Qe rfl rfl rfl (by decide) (Qe rfl rfl rfl (by decide) (Qu rfl rfl rfl (Qd rfl rfl (WpL.nil (Qg ?_)))))))
    skip
    apply RetQ.mk
    ·exact (Res.one rfl rfl)
    ·refine ⟨congrArg Value.bool ?_, rfl⟩
     have hke : k = (Qs p).length := by omega
     rw [hke, List.take_length] at hall
     exact df (fun hf => absurd hf.1 (by assumption))
    ·exact Ent.nil _


theorem chK_or (K : Int) : QV K = 1 ∨ QV K = 3 := by unfold QV; split <;> simp
def WrP (K W H M : Int) (px : List Int) : Prop := ZB K W H M ∧ (px.length : Int) = W * H ∧ ∀ p ∈ px, Yu p (QV K) M
/-- What stands behind j samples. -/
def pj (xs : List Int) (j : Nat) : List Int := if j = xs.length then Yx xs else (xs.take j).flatMap fun x => Yd x.toNat ++ [32]
theorem pj_zero {xs : List Int} : pj xs 0 = [] := by
  unfold pj
  split
  · rename_i h; rw [List.eq_nil_of_length_eq_zero h.symm]; rfl
  · rfl
theorem pj_more {xs : List Int} (_h3 : xs.length = 1 ∨ xs.length = 3) {j : Nat} (hj : j + 1 < xs.length) : pj xs j ++ Yd (xs[j]).toNat ++ [32] = pj xs (j + 1) := by
  unfold pj
  rw [if_neg (by omega), if_neg (by omega), Xk xs (by omega), List.flatMap_append]
  simp
theorem pj_end {xs : List Int} (h3 : xs.length = 1 ∨ xs.length = 3) {j : Nat} (hj : j + 1 = xs.length) : pj xs j ++ Yd (xs[j]'(by omega)).toNat = pj xs (j + 1) := by
  match xs, h3 with
  | [x], _ =>
    have : j = 0 := by simpa using hj
    subst this
    simp [pj, Yx]
  | [x, y, z], _ =>
    have : j = 2 := by simpa using hj
    subst this
    simp [pj, Yx]
  | [_, _], h => simp at h
  | _ :: _ :: _ :: _ :: _, h => simp at h
theorem pj_all {xs : List Int} : pj xs xs.length = Yx xs := if_pos rfl
theorem wr_take {K W : Int} {px : List Int} {k : Nat} (h : k < px.length) : wrL K W 0 (px.take (k + 1)) = wrL K W 0 (px.take k) ++ (Yx (Qs px[k]) ++ if nlB K W k = true then [10] else []) := by
  rw [Xk px h, wrL_snoc]
  simp only [pxB, Nat.zero_add, List.length_take, show min k px.length = k by omega]
theorem nl_t {K W : Int} {k : Nat} (h : K > 1 ∨ (k : Int) % W = W - 1 ∨ (k : Int) % W % 70 = 69) {b bs : List Int} (e : bs = b) : b ++ [10] = bs ++ (if nlB K W k = true then [10] else []) := by
  rw [show nlB K W k = true from decide_eq_true h, if_pos rfl, e]
theorem nl_f {K W : Int} {k : Nat} (h1 : ¬ K > 1) (h2 : ¬ (k : Int) % W = W - 1) (h3 : ¬ (k : Int) % W % 70 = 69) {b bs : List Int} (e : bs = b) : b = bs ++ (if nlB K W k = true then [10] else []) := by
  rw [show nlB K W k = false from decide_eq_false (by omega), e]; simp
structure WrX where
  (k : Nat) (s : ByteArray)

set_option maxHeartbeats 4000000 in
theorem rWrite_spec (A0 : HP) (a0 : Option Addr) (c0 : Nat) (px : List Int) (hA : RdsL [A0] a0 (XJ px)) (hr : ∀ p ∈ px, 0 ≤ p ∧ p < 18446744073709551616) (hl : px.length ≤ 300000) (K W H M : Int) : Fn Tryz.prog 69 #[.slice a0 px.length c0, .agg #[.int .i64 K, .int .i64 W, .int .i64 H, .int .i64 M]] [A0] (fun v l => ∃ s e, v = .tuple #[.string s, .int .i64 e] ∧ ((WrP K W H M px ∧ e = 0 ∧ QK s = wrL K W 0 px ∧ s.size ≤ px.length * 300000) ∨ (¬ WrP K W H M px ∧ e = 1 ∧ s = ⟨#[]⟩)) ∧ l = [A0]) := by
 refine Ql (vs := [.slice a0 px.length c0, .agg #[.int .i64 K, .int .i64 W, .int .i64 H, .int .i64 M]]) Tryz.func69 rfl Tryz.ntmps69 rfl (Qb (Qa (Q1 rfl rfl rfl ?_)))
 intro g1
 refine Qd rfl rfl (Qd rfl rfl (WpL.nil (Qb (Qa ?_))))
 refine Qv (vs := [_, _, _, _]) rfl rfl rfl (by rfl) ?_
 refine Qi rfl rfl (by repeat' constructor) (rMay_spec _ _ _ _) ?_
 rintro _ _ ⟨rfl, rfl⟩
 simp only [Qr]
 refine Qd rfl rfl (WpL.nil (Qb (Qb (Qa (Qc rfl rfl (XN rfl rfl (WpL.nil (Qh rfl (fun hP => ?_) (fun hP => ?_)))))))))
 ·refine Qb (Qa (Qd rfl rfl (Qd rfl rfl (WpL.nil (Qg ?_)))))
  apply RetQ.mk
  ·exact (QM rfl rfl rfl)
  ·exact ⟨_, _, rfl, .inr ⟨fun h => hP h.1, rfl, rfl⟩, rfl⟩
  ·exact Take.ent' (by repeat' constructor)
 ·have hP := Classical.not_not.1 hP
  have hP2 := hP.1
  unfold XP at hP2
  have hK4 := hP.2
  have hWH0 : 0 ≤ W * H := Int.mul_nonneg (by omega) (by omega)
  have hWH : W * H ≤ 4096 * 65536 := Int.mul_le_mul (by omega) (by omega) (by omega) (by omega)
  refine Wp.skip (Qb (Qb (Qa (Qc rfl rfl (QP rfl rfl (Qk (o2 := 1) rfl rfl rfl (Qn rfl rfl (by rfl) ?_)))))))
  refine Qk (o2 := 2) rfl rfl rfl (Qn rfl rfl (by rfl) ?_)
  refine Xs rfl rfl rfl (Qo (by omega) (by omega)) ?_
  refine Xn rfl rfl rfl (WpL.nil (Qh rfl (fun h1 => ?_) (fun h1 => ?_)))
  ·refine Qb (Qa (Qd rfl rfl (Qd rfl rfl (WpL.nil (Qg ?_)))))
   apply RetQ.mk
   ·exact (QM rfl rfl rfl)
   ·exact ⟨_, _, rfl, .inr ⟨fun h => h1 h.2.1, rfl, rfl⟩, rfl⟩
   ·exact Take.ent' (by repeat' constructor)
  ·refine Wp.skip (Qb (Qa (Qd rfl rfl (WpL.nil (Qb (Qb (Qa (Qd rfl rfl (WpL.nil (Wp.block ?_))))))))))
   refine Wp.loopD (σ := WrX) (fun x => x.k ≤ px.length ∧ QK x.s = wrL K W 0 (px.take x.k) ∧ (∀ p ∈ px.take x.k, Yu p (QV K) M) ∧ x.s.size ≤ x.k * 300000) [4, 5, 7, 8, 9, 10, 11, 12, 25, 26, 27, 28, 29, 30, 31, 32, 33, 34, 35, 36, 37, 38, 39, 40, 41, 42, 43, 44, 45, 46, 47, 48, 49, 50, 51, 52, 53, 54, 55, 56, 57, 58, 59, 60, 61, 62, 63, 64, 65, 66, 67, 68, 69, 70, 71, 72, 73, 74, 75, 76, 77, 78, 79, 80, 81, 82, 83, 84, 85] (fun x => [(8, .int .i64 (x.k : Int)), (7, .string x.s)]) (fun x => [QJ g1 [.int .i64 K, .int .i64 W, .int .i64 H, .int .i64 M] 113, A0]) (fun x => px.length - x.k) ⟨0, ⟨#[]⟩⟩ ?_ (by repeat (first | exact FrLe.nil | refine FrLe.cons rfl ?_)) ?_ ?_
   ·exact ⟨Nat.zero_le _, rfl, by simp, Nat.zero_le _⟩
   ·exact Ent.refl _
   ·rintro ⟨k, s⟩ ⟨hk, hbs, hfit, hsz⟩
    dsimp only at hk hbs hfit hsz ⊢
    refine Qb (Qb (Qa (Qc rfl rfl (Qc rfl rfl (QP rfl rfl (Q7 rfl rfl rfl (WpL.nil (Qh rfl (fun h3 => ?_) (fun h3 => ?_)))))))))
    ·have hlt : k < px.length := by omega
     have hpb := hr _ (List.getElem_mem hlt)
     refine Wp.skip (Qb (Wp.block ?_))
     refine Qb ?_
     apply Q9 mixed [⟨31, _, []⟩, ⟨32, _, []⟩, ⟨33, _, [0, 1]⟩, ⟨34, _, [2]⟩, ⟨35, _, []⟩, ⟨36, _, [4]⟩, ⟨37, _, [3, 5]⟩, ⟨9, _, [6, 0, 1, 2, 3, 4, 5]⟩] rfl
     ·refine AllObs.mk ?_ ?_
      ·exact Qc rfl rfl (Qm rfl)
      refine AllObs.mk ?_ ?_
      ·exact Qc rfl rfl (Qm rfl)
      refine AllObs.mk ?_ ?_
      ·refine Xd k rfl rfl rfl hA (by exact Take.ent' (by repeat' constructor)) rfl (by omega) (by rw [X9]; omega) ?_
       exact Qm rfl
      refine AllObs.mk ?_ ?_
      ·refine Xh rfl rfl hA (by exact Take.ent' (by repeat' constructor)) (YZ px hlt) ?_
       exact Qm rfl
      refine AllObs.mk ?_ ?_
      ·refine Qv (vs := [_, _, _, _]) rfl rfl rfl (by rfl) ?_
       exact Qm rfl
      refine AllObs.mk ?_ ?_
      ·refine Qi rfl rfl (by repeat' constructor) (Zt _ _ _ _ (by omega) (by omega)) ?_
       rintro _ _ ⟨rfl, rfl⟩
       simp only [Qr]
       exact WpL.nil ⟨rfl, rfl, rfl, by exact Ent.refl _⟩
      refine AllObs.mk ?_ ?_
      ·refine Qi rfl rfl (by repeat' constructor) (rFits_spec _ _ _ hpb.1 hpb.2) ?_
       rintro _ _ ⟨rfl, rfl⟩
       simp only [Qr]
       exact WpL.nil ⟨rfl, rfl, rfl, by exact Ent.refl _⟩
      refine AllObs.mk ?_ ?_
      ·exact Qd rfl rfl (Qm rfl)
      exact AllObs.nil
     ·refine Qb (Qb (Qa (Qc rfl rfl (XN rfl rfl (WpL.nil (Qh rfl (fun hpf => ?_) (fun hpf => ?_)))))))
      ·refine Qb (Qa (Qd rfl rfl (Qd rfl rfl (WpL.nil (Qg ?_)))))
       apply RetQ.mk
       ·exact (QM rfl rfl rfl)
       ·exact ⟨_, _, rfl, .inr ⟨fun h => hpf (h.2.2 _ (List.getElem_mem hlt)), rfl, rfl⟩, rfl⟩
       ·exact Take.ent' (by repeat' constructor)
      ·have hpf := Classical.not_not.1 hpf
       have hcan := can_of_fit hpb.1 hpb.2 hpf
       have hchp : (Qs px[k]).length = 1 ∨ (Qs px[k]).length = 3 := by have h1 := hcan.1; have h2 := chK_or K; omega
       refine Wp.skip (Qb (Qa (Qc rfl rfl (Qc rfl rfl (Xd k rfl rfl rfl hA (by exact Take.ent' (by repeat' constructor)) rfl (by omega) (by rw [X9]; omega) ?_)))))
       refine Xh rfl rfl hA (by exact Take.ent' (by repeat' constructor)) (YZ px hlt) ?_
       refine Qi rfl rfl (by repeat' constructor) (Vi _ hpb.1 hpb.2) ?_
       rintro _ _ ⟨A1, a1, c1, rfl, rfl, hA1, hn1⟩
       simp only [Qr]
       refine Qd rfl rfl (WpL.nil (Qb (Qb (Qa (Qd rfl rfl (WpL.nil (Wp.block ?_)))))))
       refine Wp.loopD (σ := WrX) (fun y => y.k ≤ (Qs px[k]).length ∧ QK y.s = wrL K W 0 (px.take k) ++ pj (Qs px[k]) y.k ∧ y.s.size ≤ k * 300000 + y.k * 70000) [7, 11, 45, 46, 47, 48, 49, 50, 51, 52, 53, 54, 55, 56, 57, 58, 59, 60, 61, 62, 63, 64] (fun y => [(11, .int .i64 (y.k : Int)), (7, .string y.s)]) (fun y => [A1, QJ g1 [.int .i64 K, .int .i64 W, .int .i64 H, .int .i64 M] 113, A0]) (fun y => (Qs px[k]).length - y.k) ⟨0, s⟩ ?_ (by repeat (first | exact FrLe.nil | refine FrLe.cons rfl ?_)) ?_ ?_
       ·exact ⟨Nat.zero_le _, by simp only; rw [pj_zero, List.append_nil]; exact hbs, by rw [Nat.zero_mul, Nat.add_zero]; exact hsz⟩
       ·exact Ent.refl _
       ·rintro ⟨j, s2⟩ ⟨hj, hjb, hjz⟩
        dsimp only at hj hjb hjz ⊢
        refine Qb (Qb (Qa (Qc rfl rfl (Qc rfl rfl (QP rfl rfl (Q7 rfl rfl rfl (WpL.nil (Qh rfl (fun h6 => ?_) (fun h6 => ?_)))))))))
        ·have hlj : j < (Qs px[k]).length := by omega
         have hsm := hcan.2.2 _ (List.getElem_mem hlj)
         refine Wp.skip (Qb (Wp.block ?_))
         refine Qb (Qa (Qc rfl rfl (Qc rfl rfl (Qc rfl rfl (Xd j rfl rfl rfl hA1 (by exact Take.ent' (by repeat' constructor)) rfl (by omega) (by rw [Xe]; omega) ?_)))))
         refine Xh rfl rfl hA1 (by exact Take.ent' (by repeat' constructor)) (Xw (Qs px[k]) hlj) ?_
         refine Qi rfl rfl (by repeat' constructor) (Decimal_spec _ hsm.1 (by omega)) ?_
         rintro _ _ ⟨s1, rfl, hs1, rfl⟩
         simp only [Qr]
         have hz1 : s1.size ≤ 65536 := by rw [← Q0, hs1]; have := Yp ((Qs px[k])[j]).toNat; omega
         refine Yq rfl rfl rfl (by omega) ?_
         refine Qd rfl rfl (WpL.nil (Qb (Qa (Qc rfl rfl (Qc rfl rfl (QP rfl rfl (Zc rfl rfl rfl (Qo (by omega) (by omega)) ?_)))))))
         refine Q7 rfl rfl rfl (WpL.nil (Qh rfl (fun h7 => ?_) (fun h7 => ?_)))
         ·refine Qa (Qc rfl rfl (Yq rfl rfl rfl (by rw [ByteArray.size_append]; have : (⟨#[32]⟩ : ByteArray).size = 1 := rfl; omega) ?_))
          refine Qd rfl rfl (WpL.nil (Qa (Qc rfl rfl (QA rfl rfl rfl (Qo (by omega) (by omega)) ?_))))
          refine Qd rfl rfl (WpL.nil (Qp (⟨j + 1, s2 ++ s1 ++ ⟨#[32]⟩⟩ : WrX) ?_ ?_ (by ((repeat (first | exact Top.refl | refine Top.push rfl ?_)); done)) (by repeat (first | exact FrLe.nil | refine FrLe.cons rfl ?_)) ?_))
          ·refine ⟨by simp only; omega, ?_, ?_⟩
           ·simp only
            rw [X4, X4, hjb, hs1, ← pj_more hchp (by omega), show QK ⟨#[32]⟩ = [32] from rfl]
            simp only [List.append_assoc]
           ·simp only [ByteArray.size_append]; have : (⟨#[32]⟩ : ByteArray).size = 1 := rfl; omega
          ·simp only; omega
          ·exact Ent.refl _
         ·refine Wp.skip (Qa (Qc rfl rfl (QA rfl rfl rfl (Qo (by omega) (by omega)) ?_)))
          refine Qd rfl rfl (WpL.nil (Qp (⟨j + 1, s2 ++ s1⟩ : WrX) ?_ ?_ (by ((repeat (first | exact Top.refl | refine Top.push rfl ?_)); done)) (by repeat (first | exact FrLe.nil | refine FrLe.cons rfl ?_)) ?_))
          ·refine ⟨by simp only; omega, ?_, ?_⟩
           ·simp only
            rw [X4, hjb, hs1, ← pj_end hchp (by omega)]
            simp only [List.append_assoc]
           ·simp only [ByteArray.size_append]; omega
          ·simp only; omega
          ·exact Ent.refl _
        ·have hje : j = (Qs px[k]).length := by omega
         have hjs : pj (Qs px[k]) j = Yx (Qs px[k]) := by rw [hje, pj_all]
         rw [hjs] at hjb
         have hm0 := Int.emod_nonneg (k : Int) (show W ≠ 0 by omega)
         have hm1 := Int.emod_lt_of_pos (k : Int) (show 0 < W by omega)
         refine QO (Qb (Qa (Qc rfl rfl (Qk (o2 := 1) rfl rfl rfl (Qn rfl rfl (by rfl) ?_)))))
         refine Yr rfl rfl rfl (by omega) (by omega) ?_
         refine Qd rfl rfl (WpL.nil (Qb (Qa (Qk (o2 := 0) rfl rfl rfl (Qn rfl rfl (by rfl) ?_)))))
         refine XM rfl rfl rfl (Qc rfl rfl (QN rfl rfl rfl (fun hg1 => ?_) (fun hg1 => ?_)))
         ·have hg1 := of_decide_eq_false hg1
          refine Qc rfl rfl (Qf rfl rfl (Qk (o2 := 1) rfl rfl rfl (Qf rfl rfl (Qn rfl rfl (by rfl) ?_))))
          refine Qf rfl rfl (Zc rfl rfl rfl (Qo (by omega) (by omega)) ?_)
          refine Qf rfl rfl (QH rfl rfl rfl (Qu rfl rfl rfl (Qc rfl rfl (QN rfl rfl rfl (fun hg2 => ?_) (fun hg2 => ?_)))))
          ·have hg2 := of_decide_eq_false hg2
           refine Qc rfl rfl (Qf rfl rfl (Yr rfl rfl rfl (by omega) (by omega) ?_))
           refine Qf rfl rfl (QH rfl rfl rfl (Qu rfl rfl rfl (WpL.nil (Qh rfl (fun h8 => ?_) (fun h8 => ?_)))))
           ·refine Qa (Qc rfl rfl (Yq rfl rfl rfl (by have : (⟨#[10]⟩ : ByteArray).size = 1 := rfl; omega) ?_))
            refine Qd rfl rfl (WpL.nil (Qa (Qc rfl rfl (QA rfl rfl rfl (Qo (by omega) (by omega)) ?_))))
            refine Qd rfl rfl (WpL.nil (Qp (⟨k + 1, s2 ++ ⟨#[10]⟩⟩ : WrX) ?_ ?_ (by ((repeat (first | exact Top.refl | refine Top.push rfl ?_)); done)) (by repeat (first | exact FrLe.nil | refine FrLe.cons rfl ?_)) ?_))
            ·refine ⟨by simp only; omega, ?_, fun p hp => ?_, ?_⟩
             ·simp only
              rw [X4, show QK ⟨#[10]⟩ = [10] from rfl, wr_take hlt, ← List.append_assoc]
              exact nl_t (.inr (.inr (by omega))) hjb.symm
             ·rw [Xk px hlt] at hp
              rcases List.mem_append.1 hp with hp | hp
              ·exact hfit p hp
              ·have := List.mem_singleton.1 hp; subst this; exact hpf
             ·simp only [ByteArray.size_append]; have : (⟨#[10]⟩ : ByteArray).size = 1 := rfl; omega
            ·simp only; omega
            ·exact Take.ent' (by repeat' constructor)
           ·refine Wp.skip (Qa (Qc rfl rfl (QA rfl rfl rfl (Qo (by omega) (by omega)) ?_)))
            refine Qd rfl rfl (WpL.nil (Qp (⟨k + 1, s2⟩ : WrX) ?_ ?_ (by ((repeat (first | exact Top.refl | refine Top.push rfl ?_)); done)) (by repeat (first | exact FrLe.nil | refine FrLe.cons rfl ?_)) ?_))
            ·refine ⟨by simp only; omega, ?_, fun p hp => ?_, ?_⟩
             ·simp only
              rw [wr_take hlt, ← List.append_assoc]
              exact nl_f (by omega) (by omega) (by omega) hjb.symm
             ·rw [Xk px hlt] at hp
              rcases List.mem_append.1 hp with hp | hp
              ·exact hfit p hp
              ·have := List.mem_singleton.1 hp; subst this; exact hpf
             ·simp only; omega
            ·simp only; omega
            ·exact Take.ent' (by repeat' constructor)
          ·have hg2 := of_decide_eq_true hg2
           refine Qe rfl rfl rfl (by decide) (Qe rfl rfl rfl (by decide) (Qq rfl rfl rfl (WpL.nil (Xj rfl (Qa (Qc rfl rfl (Yq rfl rfl rfl (by have : (⟨#[10]⟩ : ByteArray).size = 1 := rfl; omega) ?_)))))))
           refine Qd rfl rfl (WpL.nil (Qa (Qc rfl rfl (QA rfl rfl rfl (Qo (by omega) (by omega)) ?_))))
           refine Qd rfl rfl (WpL.nil (Qp (⟨k + 1, s2 ++ ⟨#[10]⟩⟩ : WrX) ?_ ?_ (by ((repeat (first | exact Top.refl | refine Top.push rfl ?_)); done)) (by repeat (first | exact FrLe.nil | refine FrLe.cons rfl ?_)) ?_))
           ·refine ⟨by simp only; omega, ?_, fun p hp => ?_, ?_⟩
            ·simp only
             rw [X4, show QK ⟨#[10]⟩ = [10] from rfl, wr_take hlt, ← List.append_assoc]
             exact nl_t (.inr (.inl (by omega))) hjb.symm
            ·rw [Xk px hlt] at hp
             rcases List.mem_append.1 hp with hp | hp
             ·exact hfit p hp
             ·have := List.mem_singleton.1 hp; subst this; exact hpf
            ·simp only [ByteArray.size_append]; have : (⟨#[10]⟩ : ByteArray).size = 1 := rfl; omega
           ·simp only; omega
           ·exact Take.ent' (by repeat' constructor)
         ·have hg1 := of_decide_eq_true hg1
          refine Qe rfl rfl rfl (by decide) (Qe rfl rfl rfl (by decide) (Qe rfl rfl rfl (by decide) (Qe rfl rfl rfl (by decide) (Qq rfl rfl rfl (Qc rfl rfl (Qe rfl rfl rfl (by decide) (Qe rfl rfl rfl (by decide) (Qe rfl rfl rfl (by decide) (Qq rfl rfl rfl (WpL.nil (Xj rfl (Qa ?_))))))))))))
          refine Qc rfl rfl (Yq rfl rfl rfl (by have : (⟨#[10]⟩ : ByteArray).size = 1 := rfl; omega) ?_)
          refine Qd rfl rfl (WpL.nil (Qa (Qc rfl rfl (QA rfl rfl rfl (Qo (by omega) (by omega)) ?_))))
          refine Qd rfl rfl (WpL.nil (Qp (⟨k + 1, s2 ++ ⟨#[10]⟩⟩ : WrX) ?_ ?_ (by ((repeat (first | exact Top.refl | refine Top.push rfl ?_)); done)) (by repeat (first | exact FrLe.nil | refine FrLe.cons rfl ?_)) ?_))
          ·refine ⟨by simp only; omega, ?_, fun p hp => ?_, ?_⟩
           ·simp only
            rw [X4, show QK ⟨#[10]⟩ = [10] from rfl, wr_take hlt, ← List.append_assoc]
            exact nl_t (.inl (by omega)) hjb.symm
           ·rw [Xk px hlt] at hp
            rcases List.mem_append.1 hp with hp | hp
            ·exact hfit p hp
            ·have := List.mem_singleton.1 hp; subst this; exact hpf
           ·simp only [ByteArray.size_append]; have : (⟨#[10]⟩ : ByteArray).size = 1 := rfl; omega
          ·simp only; omega
          ·exact Take.ent' (by repeat' constructor)
    ·refine QO (Qb (Qa (Qc rfl rfl (Qd rfl rfl (Qd rfl rfl (WpL.nil (Qg ?_)))))))
     apply RetQ.mk
     ·exact (QM rfl rfl rfl)
     ·have hke : k = px.length := by omega
      have hz : s.size ≤ px.length * 300000 := by rw [← hke]; exact hsz
      rw [hke, List.take_length] at hfit hbs
      exact ⟨_, _, rfl, .inl ⟨⟨hP, by omega, hfit⟩, rfl, hbs, hz⟩, rfl⟩
     ·exact Take.ent' (by repeat' constructor)

end Go.Proofs.YtggamdlpiejbiaaGreat
