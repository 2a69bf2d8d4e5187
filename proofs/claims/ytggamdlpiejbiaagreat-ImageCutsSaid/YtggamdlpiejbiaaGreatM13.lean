/- Walks and plain laws, a part of the proof of ImageCuts: every input that the law's guards let in, no condition beside. -/
import Derived.Test.YtggamdlpiejbiaaGreatM12
namespace Go.Proofs.YtggamdlpiejbiaaGreat
open Go.RowKit Go.Shelf

theorem rRead_spec (s : ByteArray) (hs : s.size ≤ 900000000000) (K W H M : Int) : Fn Tryz.prog 80 #[.string s, .agg #[.int .i64 K, .int .i64 W, .int .i64 H, .int .i64 M]] [] (fun v l => ∃ out i x a c, (out, i, x) = Zz K W H M (QJ s) ∧ v = .tuple #[.slice a out.length c, .int .i64 i, .int .i64 x] ∧ l = [QX 92 1 a c (out).length (XQ out)]) := by
 refine Ql (vs := [.string s, .agg #[.int .i64 K, .int .i64 W, .int .i64 H, .int .i64 M]]) Tryz.func80 rfl Tryz.ntmps80 rfl (Qb (Qa (Q2 rfl rfl rfl ?_)))
 intro g1
 refine Qd rfl rfl (Qd rfl rfl (Qd rfl rfl (WpL.nil (Qb (Qa ?_)))))
 refine Qw (vs := [_, _, _, _]) rfl rfl rfl (by rfl) ?_
 refine Qi rfl rfl (by repeat' constructor) (rMay_spec _ _ _ _) ?_
 rintro _ _ ⟨rfl, rfl⟩
 simp only [Qs]
 refine Qd rfl rfl (WpL.nil (Qb (Qb (Qa (Qc rfl rfl (XV rfl rfl (WpL.nil (Qj rfl (fun hP => ?_) (fun hP => ?_)))))))))
 ·refine Qb (Qa (Qd rfl rfl (Qd rfl rfl (Qd rfl rfl (WpL.nil (Qh ?_))))))
  apply RetQ.mk
  ·exact (Res.three rfl rfl rfl rfl)
  ·exact ⟨[], _, _, none, 0, (if_neg hP).symm, rfl, rfl⟩
  ·exact Ent.own_nil (Ent.nil _)
 ·have hP := Classical.not_not.1 hP
  have hP3 := hP
  unfold Zq XG at hP3
  refine Wp.skip (Qb (Qa ?_))
  refine Qw (vs := [_, _, _, _]) rfl rfl rfl (by rfl) ?_
  refine Qi rfl rfl (by repeat' constructor) (rNew_spec _ _ _ _) ?_
  rintro _ _ ⟨rfl, rfl⟩
  simp only [Qs]
  refine XH rfl ?_
  intro gR
  refine QC rfl rfl rfl (by rfl) rfl ?_
  refine WpL.nil (Qb (Qa (Qd rfl rfl (WpL.nil (Qb (Qb (Qa (Qd rfl rfl (WpL.nil (Wp.block ?_))))))))))
  refine Wp.loopD (σ := RdX) (fun x => x.k ≤ s.size ∧ RInv (QR K) x.k x.acc.length ⟨x.n, x.one, x.row, x.rows, x.last, x.e⟩ ∧ x.last = 0 ∧ Yr K W H M ((QJ s).drop x.k) (x.k : Int) ⟨x.n, x.one, x.row, x.rows, x.last, x.e⟩ x.acc = Zz K W H M (QJ s) ∧ RGood K W ⟨x.n, x.one, x.row, x.rows, x.last, x.e⟩) [4, 5, 6, 9, 10, 11, 12, 21, 22, 23, 24, 25, 26, 27, 28, 29, 30, 31, 32, 33, 34, 35, 36, 37, 38, 39, 40, 41, 42, 43, 44, 45, 46, 47, 48, 49] (fun x => [(10, .int .i64 (x.k : Int)), (9, .slice x.a3 x.acc.length x.c3)]) (fun x => [QK gR [.int .i64 K, .int .i64 W, .int .i64 H, .int .i64 M, .int .i64 x.n, .slice x.a1 x.one.length x.c1, .slice x.a2 x.row.length x.c2, .int .i64 x.rows, .int .i64 x.last, .int .i64 x.e] 175, QX 3 1 x.a1 x.c1 x.one.length (Q5 x.one), QX 92 1 x.a2 x.c2 x.row.length (XQ x.row), QX 92 1 x.a3 x.c3 x.acc.length (XQ x.acc)]) (fun x => s.size - x.k) ⟨0, -1, [], [], 0, 0, 0, [], none, 0, none, 0, none, 0⟩ ?_ (by repeat (first | exact FrLe.nil | refine FrLe.cons rfl ?_)) ?_ ?_
  ·exact ⟨Nat.zero_le _, ⟨by simp; have := YU K; omega, by simp, by simp, by simp⟩, rfl, (if_pos hP).symm, by decide, fun _ => rfl, by simp only [List.length_nil]; omega⟩
  ·exact (Ent.own_nil (T := 3) (s := 1) (Ent.refl _)).trans ((Ent.own_nil (T := 92) (s := 1) (Ent.refl _)).trans ((Ent.own_nil (T := 92) (s := 1) (Ent.refl _)).trans (Take.ent' (by repeat' constructor))))
  ·rintro ⟨k, n, one, row, rows, last, e, acc, a1, c1, a2, c2, a3, c3⟩ ⟨hk, hinv, hl, hR, hgd⟩
   dsimp only at hk hinv hl hR hgd ⊢
   have hch := YU K
   have hin := hinv
   obtain ⟨hi1, hi2, hi3, hi4⟩ := hin
   dsimp only at hi1 hi2 hi3 hi4
   have hg2 := hgd
   obtain ⟨hgn, hgk, hgr⟩ := hg2
   dsimp only at hgn hgk hgr
   refine Qb (Qb (Qa (Qc rfl rfl (Qc rfl rfl (Xy rfl Tryz.underlying9 rfl (Q8 rfl rfl rfl (WpL.nil (Qj rfl (fun h2 => ?_) (fun h2 => ?_)))))))))
   ·have hlt : k < s.size := by omega
    refine Wp.skip (Qb (Wp.block ?_))
    refine Qb ?_
    apply YE (fB := []) mixed 8 [(4, false), (3, true)] rfl rfl (by kernel_rfl)
    apply Q7 [⟨0, 28, _, [], false⟩, ⟨1, 29, _, [], false⟩, ⟨2, 30, _, [], false⟩, ⟨3, 31, _, [1, 2], false⟩] [] [0, 1, 2, 3] [27, 33, 34, 11, 12] (.inr rfl) rfl rfl rfl (by kernel_rfl) rfl rfl rfl
    ·refine AllF.cons rfl rfl rfl rfl ?_ ?_
     ·refine Qw (vs := [_, _, _, _, _, _, _, _, _, _]) rfl rfl rfl (by rfl) ?_
      exact Qm rfl
     refine AllF.cons rfl rfl rfl rfl ?_ ?_
     ·exact Qc rfl rfl (Qm rfl)
     refine AllF.cons rfl rfl rfl rfl ?_ ?_
     ·exact Qc rfl rfl (Qm rfl)
     refine AllF.cons rfl rfl rfl rfl ?_ ?_
     ·refine Yo rfl Tryz.underlying9 rfl rfl (by omega) (by simp; omega) ?_
      exact Qm rfl
     exact AllF.nil
    ·refine Qi rfl rfl (by repeat' constructor) (rPut_spec _ _ _ _ _ _ _ _ _ _ _ _ _ _ _ (by omega) (u8_lt _) (by omega) (by omega) (by omega) (by omega) (by omega) (by omega) (by omega) (by omega) (by omega) (by omega) (by omega)) ?_
     rintro _ _ ⟨n2, one2, row2, rows2, last2, e2, out, a1, c1, a2, c2, a3, c3, hs2, rfl, rfl⟩
     simp only [Qs]
     have hinv2 := putR_inv (M := M) (W := W) (H := H) (c := ((s[k]'hlt).toNat : Int)) hinv
     have hgd2 := putR_good (M := M) (H := H) (c := ((s[k]'hlt).toNat : Int)) (by omega) hgd
     have hs3 : (({ n := n2, one := one2, row := row2, rows := rows2, last := last2, e := e2 } : RS), out) = XP K W H M ⟨n, one, row, rows, last, e⟩ ((s[k]'hlt).toNat : Int) := hs2
     rw [← hs3] at hinv2 hgd2
     rw [XD hlt, Yr, ← hs3] at hR
     dsimp only at hR
     have hol := hinv2.2.1
     dsimp only at hol
     have hla := putR_last (K := K) (W := W) (H := H) (M := M) (c := ((s[k]'hlt).toNat : Int)) (s := ⟨n, one, row, rows, last, e⟩) hl
     rw [← hs3] at hla
     dsimp only at hla
     refine WpL.nil ⟨rfl, rfl, ?_⟩
     apply YZ [⟨5, 27, _, [4], false⟩, ⟨6, 33, _, [5], false⟩, ⟨7, 34, _, [5], true⟩] [] [5, 6] [12, 34] (.inl ⟨_, .nil⟩) rfl rfl rfl (by kernel_rfl) rfl rfl rfl rfl
     ·refine AllF.cons rfl rfl rfl rfl ?_ ?_
      ·exact Qc rfl rfl (Qm rfl)
      refine AllF.cons rfl rfl rfl rfl ?_ ?_
      ·exact QB rfl rfl rfl (Qm rfl)
      refine QD rfl rfl rfl rfl ?_ ?_
      ·exact QB rfl rfl rfl (Qm rfl)
      exact AllF.nil
     ·intro g3
      refine QC rfl rfl rfl (by rfl) rfl ?_
      refine WpL.nil ⟨rfl, rfl, ?_⟩
      apply GoR.nil [⟨10, 12, _, [0, 1, 2, 3, 4, 5, 6, 7, 8, 9], false⟩] (.inl ⟨_, .nil⟩) rfl rfl
      ·refine AllF.cons rfl rfl rfl rfl ?_ ?_
       ·exact Qd rfl rfl (Qm rfl)
       exact AllF.nil
      ·refine Qb (Qa ?_)
       refine Qw (vs := [_, _, _, _, _, _, _, _, _, _]) rfl rfl rfl (by rfl) ?_
       refine QC rfl rfl rfl (by rfl) rfl ?_
       refine WpL.nil (Qb (Qa (Qc rfl rfl (Qc rfl rfl (ZR rfl rfl rfl (by repeat' constructor) (by rfl) (by rfl) (Z5 _) (by omega) (by omega) ?_)))))
       intro a38 c38
       rw [pxs_app, show acc.length + out.length = (acc ++ out).length from by simp]
       refine Qd rfl rfl (WpL.nil (Qb (Qb (Qa (Qk (o2 := 8) rfl rfl rfl (Qn rfl rfl (by rfl) ?_))))))
       refine QH rfl rfl rfl (WpL.nil (Qj rfl (fun h3 => ?_) (fun h3 => ?_)))
       ·refine Qb (Qa (Qc rfl rfl (Qc rfl rfl (QA rfl rfl rfl (Qo (by omega) (by omega)) ?_))))
        refine Qd rfl rfl (Qd rfl rfl (Qd rfl rfl (WpL.nil (Qh ?_))))
        apply RetQ.mk
        ·exact (Res.three rfl rfl rfl rfl)
        ·exact ⟨_, _, _, a38, c38, (if_pos h3).symm.trans hR, rfl, rfl⟩
        ·exact Take.ent' (by repeat' constructor)
       ·refine Wp.skip (Qb (Qa (Qk (o2 := 8) rfl rfl rfl (Qn rfl rfl (by rfl) ?_))))
        refine QH rfl rfl rfl (WpL.nil (Qj rfl (fun h4 => ?_) (fun h4 => ?_)))
        ·refine Qb ?_
         apply Q9 mixed [⟨48, _, []⟩, ⟨49, _, [0]⟩, ⟨4, _, []⟩, ⟨5, _, [2]⟩, ⟨6, _, [1, 3, 0, 2]⟩] rfl
         ·refine AllObs.mk ?_ ?_
          ·exact Qk (o2 := 9) rfl rfl rfl (Qm rfl)
          refine AllObs.mk ?_ ?_
          ·refine Qn rfl rfl (by rfl) ?_
           exact Qm rfl
          refine AllObs.mk ?_ ?_
          ·exact Qd rfl rfl (Qm rfl)
          refine AllObs.mk ?_ ?_
          ·exact Qd rfl rfl (Qm rfl)
          refine AllObs.mk ?_ ?_
          ·exact Qd rfl rfl (Qm rfl)
          exact AllObs.nil
         ·refine Qh ?_
          apply RetQ.mk
          ·exact (Res.three rfl rfl rfl rfl)
          ·exact ⟨[], _, _, none, 0, ((if_neg h3).trans (if_pos h4)).symm.trans hR, rfl, rfl⟩
          ·exact Ent.own_nil (Ent.nil _)
        ·refine Wp.skip (Qa (Qc rfl rfl (QA rfl rfl rfl (Qo (by omega) (by omega)) ?_)))
         refine Qd rfl rfl (WpL.nil ?_)
         have hR2 := (((if_neg h3).trans (if_neg h4)).symm.trans hR)
         refine Qq (⟨k + 1, n2, one2, row2, rows2, last2, e2, acc ++ out, a1, c1, a2, c2, a38, c38⟩ : RdX) ?_ ?_ (by ((repeat (first | exact Top.refl | refine Top.push rfl ?_)); done)) (by repeat (first | exact FrLe.nil | refine FrLe.cons rfl ?_)) ?_
         ·exact ⟨by simp only; omega, by simp only [List.length_append]; exact hinv2, by simp only; omega, hR2, hgd2⟩
         ·simp only; omega
         ·exact Take.ent' (by repeat' constructor)
   ·refine QP (Qb (Qa ?_))
    refine Qw (vs := [_, _, _, _, _, _, _, _, _, _]) rfl rfl rfl (by rfl) ?_
    refine Qi rfl rfl (by repeat' constructor) (rEnd_spec _ _ _ _ _ _ _ _ _ _ _ _ _ _ (by omega) (by omega) (by omega) (by omega) (by omega) (by omega) (by omega) (by omega) (by omega) (by omega) (by omega)) ?_
    rintro _ _ ⟨n2, one2, row2, rows2, last2, e2, out, a1, c1, a2, c2, a3, c3, hs2, rfl, rfl⟩
    simp only [Qs]
    have hol := endR_out (W := W) (H := H) hinv
    rw [← hs2] at hol
    dsimp only at hol
    rw [List.drop_eq_nil_of_le (by rw [QZ]; omega), Yr, ← hs2] at hR
    dsimp only at hR
    refine Qc rfl rfl (QB rfl rfl rfl (QB rfl rfl rfl (XH rfl ?_)))
    intro g4
    refine QC rfl rfl rfl (by rfl) rfl ?_
    refine Qd rfl rfl (WpL.nil (Qb (Qb (Qa (Qk (o2 := 8) rfl rfl rfl (Qn rfl rfl (by rfl) ?_))))))
    refine QH rfl rfl rfl (WpL.nil (Qj rfl (fun h5 => ?_) (fun h5 => ?_)))
    ·refine Qb ?_
     apply Q9 mixed [⟨58, _, []⟩, ⟨59, _, [0]⟩, ⟨4, _, []⟩, ⟨5, _, [2]⟩, ⟨6, _, [1, 3, 0, 2]⟩] rfl
     ·refine AllObs.mk ?_ ?_
      ·exact Qk (o2 := 9) rfl rfl rfl (Qm rfl)
      refine AllObs.mk ?_ ?_
      ·refine Qn rfl rfl (by rfl) ?_
       exact Qm rfl
      refine AllObs.mk ?_ ?_
      ·exact Qd rfl rfl (Qm rfl)
      refine AllObs.mk ?_ ?_
      ·exact Qd rfl rfl (Qm rfl)
      refine AllObs.mk ?_ ?_
      ·exact Qd rfl rfl (Qm rfl)
      exact AllObs.nil
     ·refine Qh ?_
      apply RetQ.mk
      ·exact (Res.three rfl rfl rfl rfl)
      ·exact ⟨[], _, _, none, 0, (if_pos h5).symm.trans hR, rfl, rfl⟩
      ·exact Ent.own_nil (Ent.nil _)
    ·refine Wp.skip (Qb (Qa (Qc rfl rfl (Qc rfl rfl (ZR rfl rfl rfl (by repeat' constructor) (by rfl) (by rfl) (Z5 _) (by omega) (by omega) ?_)))))
     intro a62 c62
     rw [pxs_app, show acc.length + out.length = (acc ++ out).length from by simp]
     refine Qc rfl rfl (Xy rfl Tryz.underlying9 rfl (Qd rfl rfl (Qd rfl rfl (Qd rfl rfl (WpL.nil (Qh ?_))))))
     apply RetQ.mk
     ·exact (Res.three rfl rfl rfl rfl)
     ·exact ⟨_, _, _, a62, c62, ((if_neg h5).symm.trans hR).trans rfl, by rw [show k = s.size by omega], rfl⟩
     ·exact Take.ent' (by repeat' constructor)

end Go.Proofs.YtggamdlpiejbiaaGreat
namespace Go.Proofs.YtggamdlpiejbiaaGreat
open Go.RowKit Go.Shelf


def Q3 (x m : Int) : Int := (if x < 0 then -(x + 1) else x) % m
theorem X6 {x m : Int} (h : 1 ≤ m) : 0 ≤ Q3 x m ∧ Q3 x m < m := ⟨Int.emod_nonneg _ (by omega), Int.emod_lt_of_pos _ (by omega)⟩
theorem Yb (x m : Int) (h0 : -9223372036854775808 ≤ x) (h1 : x < 9223372036854775808) (hm : 1 ≤ m) : Fn Tryz.prog 33 #[.int .i64 x, .int .i64 m] [] (fun v l => v = .int .i64 (Q3 x m) ∧ l = []) := by
 refine Ql (vs := [.int .i64 x, .int .i64 m]) Tryz.func33 rfl Tryz.ntmps33 rfl (Qb (Qa (Qd rfl rfl (WpL.nil (Qb (Qb (Qa (Qc rfl rfl (Q8 rfl rfl rfl (WpL.nil (Qj rfl (fun h0 => ?_) (fun h0 => ?_))))))))))))
 ·refine Qa (Qc rfl rfl (QA rfl rfl rfl (Qo (by omega) (by omega)) ?_))
  refine s_neg rfl rfl (Qo (by omega) (by omega)) ?_
  refine Qd rfl rfl (WpL.nil (Qb (Qa (Qc rfl rfl (Qc rfl rfl (YD rfl rfl rfl (by omega) (by omega) ?_))))))
  refine Qd rfl rfl (WpL.nil (Qh ?_))
  apply RetQ.mk
  ·exact (Res.one rfl rfl)
  ·exact ⟨by rw [Q3, if_pos h0], rfl⟩
  ·exact Ent.refl _
 ·refine Wp.skip (Qb (Qa (Qc rfl rfl (Qc rfl rfl (YD rfl rfl rfl (by omega) (by omega) ?_)))))
  refine Qd rfl rfl (WpL.nil (Qh ?_))
  apply RetQ.mk
  ·exact (Res.one rfl rfl)
  ·exact ⟨by rw [Q3, if_neg h0], rfl⟩
  ·exact Ent.refl _


end Go.Proofs.YtggamdlpiejbiaaGreat
namespace Go.Proofs.YtggamdlpiejbiaaGreat
open Go.RowKit Go.Shelf


def XO (n : Nat) : List Int := if n < 10 then [48 + (n : Int)] else XO (n / 10) ++ [48 + ((n % 10 : Nat) : Int)]
termination_by n
decreasing_by omega
def ZB (K W H : Int) (s : RS) (x : Int) : RS × List Int := Xw W H (X1 (QR K) s x)
inductive Feed (K M : Int) : List Int → List Int → Prop
  | nil : Feed K M [] []
  | blank {c : Int} {bs ss : List Int} (h : Xc c = true) (f : Feed K M bs ss) : Feed K M (c :: bs) ss
  | bit {x : Int} {bs ss : List Int} (hK : K = 1) (hx : x = 0 ∨ x = 1) (f : Feed K M bs ss) : Feed K M ((48 + x) :: bs) (x :: ss)
  | num {n : Nat} {c : Int} {bs ss : List Int} (hK : K ≠ 1) (h1 : (n : Int) ≤ M) (h : Xc c = true) (f : Feed K M bs ss) : Feed K M (XO n ++ c :: bs) ((n : Int) :: ss)
inductive Go1 (K W H M : Int) : List Int → RS → RS → List Int → Prop
  | nil {s : RS} : Go1 K W H M [] s s []
  | cons {c : Int} {bs out : List Int} {s s' : RS} (h : (XP K W H M s c).1.last = 0) (g : Go1 K W H M bs (XP K W H M s c).1 s' out) : Go1 K W H M (c :: bs) s s' ((XP K W H M s c).2 ++ out)
section
variable {K W H M : Int}
theorem Go1.app {bs cs o1 o2 : List Int} {s s1 s2 : RS} (h : Go1 K W H M bs s s1 o1) (g : Go1 K W H M cs s1 s2 o2) : Go1 K W H M (bs ++ cs) s s2 (o1 ++ o2) := by
  induction h with
  | nil => exact g
  | cons h _ ih => rw [List.append_assoc]; exact .cons h (ih g)
theorem Go1.one {c : Int} {s s' : RS} {o : List Int} (h : XP K W H M s c = (s', o)) (hl : s'.last = 0) : Go1 K W H M [c] s s' o := by
  have := Go1.cons (K := K) (W := W) (H := H) (M := M) (c := c) (s := s) (by rw [h]; exact hl) (Go1.nil)
  rw [h] at this
  simpa using this
theorem Go1.readL {bs out : List Int} {s s' : RS} (h : Go1 K W H M bs s s' out) : ∀ (cs : List Int) (i : Int) (acc : List Int), Yr K W H M (bs ++ cs) i s acc = Yr K W H M cs (i + bs.length) s' (acc ++ out) := by
  induction h with
  | nil => intro cs i acc; simp
  | cons h _ ih =>
    intro cs i acc
    rw [List.cons_append, Yr, if_neg (by omega), if_neg (by omega), ih]
    simp only [List.length_cons, List.append_assoc]
    congr 1
    omega
def Cl (W : Int) (s : RS) : Prop := s.n = -1 ∧ s.last = 0 ∧ (s.row.length : Int) < W
theorem dig_step {n rows e : Int} {one row : List Int} {d : Nat} (hK : K ≠ 1) (hd : d < 10) (hr : (row.length : Int) < W) (hm : 10 * max n 0 + d ≤ M) :
    XP K W H M ⟨n, one, row, rows, 0, e⟩ (48 + (d : Int)) = (⟨10 * max n 0 + d, one, row, rows, 0, e⟩, []) := by
  have hst : Xm (max n 0) (48 + (d : Int)) M = (10 * max n 0 + d, 0) := by
    unfold Xm
    rw [if_neg (by omega), if_neg (by omega)]
    exact Prod.ext (by simp only; omega) rfl
  have hb : Xc (48 + (d : Int)) = false := decide_eq_false (by omega)
  rw [stp_n0 rfl hr hK hb (by rw [hst]; simp) (by rw [hst]), hst]
theorem dig_run (hK : K ≠ 1) : ∀ (n : Nat) (one row : List Int) (rows e : Int), (n : Int) ≤ M → (row.length : Int) < W → Go1 K W H M (XO n) ⟨-1, one, row, rows, 0, e⟩ ⟨n, one, row, rows, 0, e⟩ [] := by
  intro n
  induction n using Nat.strongRecOn with
  | _ n ih =>
    intro one row rows e hM hr
    rw [XO]
    by_cases h : n < 10
    · rw [if_pos h]
      have := dig_step (K := K) (W := W) (H := H) (M := M) (n := -1) (rows := rows) (e := e) (one := one) (row := row) (d := n) hK h hr (by omega)
      rw [show (10 * max (-1) 0 + (n : Int)) = n by omega] at this
      exact Go1.one this rfl
    · rw [if_neg h]
      have h1 := ih (n / 10) (by omega) one row rows e (by omega) hr
      have h2 := dig_step (K := K) (W := W) (H := H) (M := M) (n := ((n / 10 : Nat) : Int)) (rows := rows) (e := e) (one := one) (row := row) (d := n % 10) hK (by omega) hr (by omega)
      rw [show (10 * max ((n / 10 : Nat) : Int) 0 + ((n % 10 : Nat) : Int)) = n by omega] at h2
      exact h1.app (Go1.one h2 rfl)
def Zx (K W H : Int) : List Int → RS → Bool × RS × List Int
  | [], s => (false, s, [])
  | x :: xs, s => if (ZB K W H s x).1.last = 1 then (true, (ZB K W H s x).1, (ZB K W H s x).2) else ((Zx K W H xs (ZB K W H s x).1).1, (Zx K W H xs (ZB K W H s x).1).2.1, (ZB K W H s x).2 ++ (Zx K W H xs (ZB K W H s x).1).2.2)
theorem smpR_cl {s : RS} {x : Int} (hW : 1 ≤ W) (h : Cl W s) : (ZB K W H s x).1.last = 1 ∨ Cl W (ZB K W H s x).1 := by
  obtain ⟨h1, h2, h3⟩ := h
  unfold ZB Xw X1
  split
  · rename_i hr; exact .inr ⟨h1, h2, hr⟩
  · simp only
    split
    · exact .inl rfl
    · exact .inr ⟨h1, h2, by simp; omega⟩
theorem put_bit {s : RS} {x : Int} (hK : K = 1) (hx : x = 0 ∨ x = 1) (hs : Cl W s) : XP K W H M s (48 + x) = ZB K W H s x := by
  obtain ⟨n, one, row, rows, last, e⟩ := s
  rw [stp_b1 hs.2.1 hK (decide_eq_false (by omega)) (by omega), show (48 + x - 48 : Int) = x by omega]
  rfl
theorem put_blank {s : RS} {c : Int} (h : Xc c = true) (hs : Cl W s) : XP K W H M s c = (s, []) := by
  obtain ⟨n, one, row, rows, last, e⟩ := s
  exact stp_bn hs.2.1 hs.2.2 hs.1 h
theorem put_end {one row : List Int} {rows e c : Int} {n : Nat} (hK : K ≠ 1) (h : Xc c = true) : XP K W H M ⟨n, one, row, rows, 0, e⟩ c = ZB K W H ⟨-1, one, row, rows, 0, e⟩ n :=
  stp_bs rfl (by omega) (fun x => absurd x hK) h
theorem feed_over (hW : 1 ≤ W) {bs ss : List Int} (f : Feed K M bs ss) : ∀ (s s' : RS) (out : List Int), Cl W s → Zx K W H ss s = (true, s', out) → ∀ (i : Int) (acc : List Int), ∃ j, Yr K W H M bs i s acc = (acc ++ out, j, 0) := by
  have one : ∀ (c : Int) (bs : List Int) (s : RS) (x : Int), XP K W H M s c = ZB K W H s x → (ZB K W H s x).1.last = 1 → ∀ (i : Int) (acc : List Int), Yr K W H M (c :: bs) i s acc = (acc ++ (ZB K W H s x).2, i + 1, 0) := by
    intro c bs s x h hl i acc
    rw [Yr, h, if_pos hl]
  have two : ∀ (c : Int) (bs : List Int) (s s1 : RS) (x : Int), XP K W H M s c = ZB K W H s1 x → Cl W (ZB K W H s1 x).1 → ∀ (i : Int) (acc : List Int), Yr K W H M (c :: bs) i s acc = Yr K W H M bs (i + 1) (ZB K W H s1 x).1 (acc ++ (ZB K W H s1 x).2) := by
    intro c bs s s1 x h hl i acc
    have := hl.2.1
    rw [Yr, h, if_neg (by omega), if_neg (by omega)]
  induction f with
  | nil =>
    intro s s' out hs h
    simp [Zx] at h
  | @blank c BS ss hb f ih =>
    intro s s' out hs h i acc
    obtain ⟨j, hj⟩ := ih s s' out hs h (i + 1) acc
    have := (Go1.one (K := K) (H := H) (M := M) (put_blank hb hs) hs.2.1).readL
    refine ⟨j, ?_⟩
    have h2 := this BS i acc
    simp only [List.cons_append, List.nil_append, List.append_nil] at h2
    rw [h2]
    exact hj
  | @bit x bs ss hK hx f ih =>
    intro s s' out hs h i acc
    rw [Zx] at h
    split at h
    · rename_i hl
      simp only [Prod.mk.injEq, true_and] at h
      obtain ⟨rfl, rfl⟩ := h
      exact ⟨_, one _ _ _ _ (put_bit hK hx hs) hl i acc⟩
    · rename_i hl
      have hc := (smpR_cl hW hs).resolve_left hl
      simp only [Prod.mk.injEq] at h
      obtain ⟨h1, rfl, rfl⟩ := h
      obtain ⟨j, hj⟩ := ih _ _ _ hc (Prod.ext h1 rfl) (i + 1) (acc ++ (ZB K W H s x).2)
      exact ⟨j, by rw [two _ _ _ _ _ (put_bit hK hx hs) hc, hj, List.append_assoc]⟩
  | @num n c bs ss hK hM hb f ih =>
    intro s s' out hs h i acc
    obtain ⟨n0, one', row, rows, last, e⟩ := s
    have hs0 := hs
    obtain ⟨rfl, rfl, hr⟩ := hs
    have h4 := (dig_run (H := H) hK n one' row rows e hM hr).readL (c :: bs) i acc
    rw [List.append_nil] at h4
    rw [Zx] at h
    split at h
    · rename_i hl
      simp only [Prod.mk.injEq, true_and] at h
      obtain ⟨rfl, rfl⟩ := h
      refine ⟨i + ((XO n).length : Int) + 1, h4.trans ?_⟩
      rw [Yr, put_end hK hb, if_pos hl]
    · rename_i hl
      have hc := (smpR_cl hW hs0).resolve_left hl
      simp only [Prod.mk.injEq] at h
      obtain ⟨h1, rfl, rfl⟩ := h
      obtain ⟨j, hj⟩ := ih _ _ _ hc (Prod.ext h1 rfl) (i + (XO n).length + 1) (acc ++ (ZB K W H ⟨-1, one', row, rows, 0, e⟩ n).2)
      exact ⟨j, by rw [h4, two _ _ _ _ _ (put_end hK hb) hc, hj, List.append_assoc]⟩
end


theorem pack_one {x : Int} (h : Vd x) : Xp [x] = (281474976710656 + x, 0) := by
  unfold Vd at h
  rw [packS_ok [x] (.inl rfl) (by intro n hn; simp at hn; subst hn; exact h)]
  exact Prod.ext (by simp [Yn]; omega) rfl
theorem pack_three {x y z : Int} (h : Vd x) (h2 : Vd y) (h3 : Vd z) : Xp [x, y, z] = (((x * 65536 + y) * 65536 + z) + 3 * 281474976710656, 0) := by
  rw [packS_ok [x, y, z] (.inr rfl) (by intro n hn; simp at hn; rcases hn with rfl | rfl | rfl <;> assumption)]
  exact Prod.ext (by simp [Yn]) rfl
theorem unpack_pack {xs : List Int} (h : xs.length = 1 ∨ xs.length = 3) (hs : ∀ n ∈ xs, Vd n) : Qp (Xp xs).1 = xs := by
  match xs, h with
  | [x], _ =>
    have hx := hs x (by simp)
    rw [pack_one hx]
    unfold Vd at hx
    unfold Qp
    rw [if_neg (by simp only; omega), if_pos (by simp only; omega)]
    simp only
    congr 1
    omega
  | [x, y, z], _ =>
    have hx := hs x (by simp)
    have hy := hs y (by simp)
    have hz := hs z (by simp)
    rw [pack_three hx hy hz]
    unfold Vd at hx hy hz
    unfold Qp
    rw [if_pos (by simp only; omega)]
    simp only [List.cons.injEq, and_true]
    refine ⟨by omega, by omega, by omega⟩
  | [_, _], h => simp at h
  | _ :: _ :: _ :: _ :: _, h => simp at h
/-- A pixel of a format. -/
def Can (ch M p : Int) : Prop := ((Qp p).length : Int) = ch ∧ (Xp (Qp p)).1 = p ∧ ∀ x ∈ Qp p, 0 ≤ x ∧ x ≤ M
section
variable {K W H M : Int}
theorem foldS_step {xs ss row : List Int} {rows : Int} (hl : (xs.length : Int) = QR K) (hr : (row.length : Int) < W) :
    Zx K W H (xs ++ ss) ⟨-1, [], row, rows, 0, 0⟩ = if (Xw W H ⟨-1, [], row ++ [(Xp xs).1], rows, 0, 0⟩).1.last = 1 then (true, (Xw W H ⟨-1, [], row ++ [(Xp xs).1], rows, 0, 0⟩).1, (Xw W H ⟨-1, [], row ++ [(Xp xs).1], rows, 0, 0⟩).2)
      else ((Zx K W H ss (Xw W H ⟨-1, [], row ++ [(Xp xs).1], rows, 0, 0⟩).1).1, (Zx K W H ss (Xw W H ⟨-1, [], row ++ [(Xp xs).1], rows, 0, 0⟩).1).2.1, (Xw W H ⟨-1, [], row ++ [(Xp xs).1], rows, 0, 0⟩).2 ++ (Zx K W H ss (Xw W H ⟨-1, [], row ++ [(Xp xs).1], rows, 0, 0⟩).1).2.2) := by
  have hch : QR K = 1 ∨ QR K = 3 := by unfold QR; split <;> simp
  have last : ∀ (one : List Int) (x : Int), ((one ++ [x]).length : Int) = QR K → ZB K W H ⟨-1, one, row, rows, 0, 0⟩ x = Xw W H ⟨-1, [], row ++ [(Xp (one ++ [x])).1], rows, 0, 0⟩ := by
    intro one x h
    have e1 : XF (QR K) one row x = ([], row ++ [(Xp (one ++ [x])).1]) := if_pos h
    simp only [ZB, X1, e1]
  have more : ∀ (one : List Int) (x : Int), ((one ++ [x]).length : Int) ≠ QR K → ZB K W H ⟨-1, one, row, rows, 0, 0⟩ x = (⟨-1, one ++ [x], row, rows, 0, 0⟩, []) := by
    intro one x h
    have e1 : XF (QR K) one row x = (one ++ [x], row) := if_neg h
    simp only [ZB, X1, e1]
    exact fullR_no hr
  match xs, hl with
  | [x], hl =>
    rw [List.cons_append, List.nil_append, Zx, last [] x hl, List.nil_append]
  | [x, y, z], hl =>
    simp only [List.length_cons, List.length_nil] at hl
    have m1 := more [] x (by simp; omega)
    have m2 := more [x] y (by simp; omega)
    have m3 := last [x, y] z (by simp; omega)
    simp only [Qs] at m1 m2 m3
    rw [List.cons_append, List.cons_append, List.cons_append, List.nil_append, Zx, m1, if_neg (by simp), Zx, m2, if_neg (by simp), Zx, m3]
    split <;> simp
  | [], hl => simp at hl; omega
  | [_, _], hl => simp at hl; omega
  | _ :: _ :: _ :: _ :: _, hl => simp at hl; omega
theorem rows_fold (hW : 1 ≤ W) : ∀ (l row : List Int) (rows : Int), (∀ p ∈ l, Can (QR K) M p) → (row.length : Int) < W → rows < H →
    (rows * W + row.length + l.length = H * W → ∃ s', Zx K W H (l.flatMap Qp) ⟨-1, [], row, rows, 0, 0⟩ = (true, s', row ++ l)) ∧
    (rows * W + row.length + l.length < H * W → ∃ row' rows' out, Zx K W H (l.flatMap Qp) ⟨-1, [], row, rows, 0, 0⟩ = (false, ⟨-1, [], row', rows', 0, 0⟩, out) ∧ (row'.length : Int) < W ∧ rows' * W + row'.length = rows * W + row.length + l.length ∧ rows' < H)
  | [], row, rows, hp, hr, hq => by
    have h1 : (rows + 1) * W ≤ H * W := Int.mul_le_mul_of_nonneg_right (by omega) (by omega)
    rw [Int.add_mul, Int.one_mul] at h1
    refine ⟨fun h => by simp at h; omega, fun _ => ⟨row, rows, [], rfl, hr, by simp, hq⟩⟩
  | p :: l, row, rows, hp, hr, hq => by
    obtain ⟨hc1, hc2, _⟩ := hp p (by simp)
    have hst := foldS_step (K := K) (W := W) (H := H) (xs := Qp p) (ss := l.flatMap Qp) (rows := rows) hc1 hr
    rw [hc2] at hst
    have hl : (((p :: l).length : Nat) : Int) = l.length + 1 := by simp
    by_cases hw : ((row ++ [p]).length : Int) < W
    · have hf : Xw W H ⟨-1, [], row ++ [p], rows, 0, 0⟩ = (⟨-1, [], row ++ [p], rows, 0, 0⟩, []) := fullR_no hw
      rw [hf, if_neg (by simp)] at hst
      have ih := rows_fold hW l (row ++ [p]) rows (fun q hq => hp q (by simp [hq])) hw hq
      have hl2 : ((row ++ [p]).length : Int) = row.length + 1 := by simp
      rw [List.flatMap_cons, hst]
      refine ⟨fun h => ?_, fun h => ?_⟩
      · obtain ⟨s', hs⟩ := ih.1 (by omega)
        exact ⟨s', by rw [hs]; simp⟩
      · obtain ⟨row', rows', out, hs, h1, h2, h3⟩ := ih.2 (by omega)
        exact ⟨row', rows', out, by rw [hs]; simp, h1, by omega, h3⟩
    · have hl2 : ((row ++ [p]).length : Int) = row.length + 1 := by simp
      have hf : Xw W H ⟨-1, [], row ++ [p], rows, 0, 0⟩ = (⟨-1, [], [], rows + 1, if rows + 1 = H then 1 else 0, 0⟩, row ++ [p]) := if_neg hw
      have hm : (rows + 1) * W = rows * W + W := by rw [Int.add_mul, Int.one_mul]
      rw [hf] at hst
      rw [List.flatMap_cons, hst]
      by_cases hH : rows + 1 = H
      · rw [if_pos hH, if_pos rfl]
        subst hH
        refine ⟨fun h => ?_, fun h => by omega⟩
        have : l = [] := List.eq_nil_of_length_eq_zero (by omega)
        subst this
        exact ⟨_, rfl⟩
      · rw [if_neg hH, if_neg (by simp)]
        have ih := rows_fold hW l [] (rows + 1) (fun q hq => hp q (by simp [hq])) (by simp; omega) (by omega)
        simp only [List.length_nil] at ih
        refine ⟨fun h => ?_, fun h => ?_⟩
        · obtain ⟨s', hs⟩ := ih.1 (by omega)
          exact ⟨s', by rw [hs]; simp⟩
        · obtain ⟨row', rows', out, hs, h1, h2, h3⟩ := ih.2 (by omega)
          exact ⟨row', rows', row ++ [p] ++ out, by rw [hs], h1, by omega, h3⟩
def X0 : List Int → List Int
  | [] => []
  | [x] => XO x.toNat
  | x :: y :: xs => XO x.toNat ++ 32 :: X0 (y :: xs)
def nlB (K W : Int) (i : Nat) : Bool := decide (K > 1 ∨ (i : Int) % W = W - 1 ∨ (i : Int) % W % 70 = 69)
def pxB (K W : Int) (i : Nat) (p : Int) : List Int := X0 (Qp p) ++ if nlB K W i = true then [10] else []
def ZI (K W : Int) : Nat → List Int → List Int
  | _, [] => []
  | i, p :: l => pxB K W i p ++ ZI K W (i + 1) l
theorem wrL_snoc (p : Int) : ∀ (l : List Int) (i : Nat), ZI K W i (l ++ [p]) = ZI K W i l ++ pxB K W (i + l.length) p
  | [], i => by simp [ZI]
  | q :: l, i => by simp only [List.cons_append, ZI, wrL_snoc p l (i + 1), List.length_cons, List.append_assoc]; congr 3; omega
theorem digs_one {x : Int} (h : 0 ≤ x) (h2 : x < 10) : XO x.toNat = [48 + x] := by
  rw [XO, if_pos (by omega)]
  congr 1
  omega
theorem feed_num {x c : Int} {bs ss : List Int} (hK : K ≠ 1) (h0 : 0 ≤ x) (h1 : x ≤ M) (h : Xc c = true) (f : Feed K M bs ss) : Feed K M (XO x.toNat ++ c :: bs) (x :: ss) := by
  have := Feed.num (K := K) (M := M) (n := x.toNat) hK (by omega) h f
  rwa [show ((x.toNat : Nat) : Int) = x by omega] at this
theorem feed_px (h1 : 1 ≤ K) (h3 : K ≤ 3) (hM : K = 1 → M = 1) {p : Int} (hc : Can (QR K) M p) (i : Nat) {bs ss : List Int} (f : Feed K M bs ss) : Feed K M (pxB K W i p ++ bs) (Qp p ++ ss) := by
  obtain ⟨hl, _, hs⟩ := hc
  unfold pxB
  have hK : K = 1 ∨ K = 2 ∨ K = 3 := by omega
  rcases hK with rfl | hK
  · have e1 : QR 1 = 1 := rfl
    rw [e1] at hl
    match hu : Qp p, hl with
    | [x], _ =>
      have hx := hs x (by rw [hu]; simp)
      rw [hM rfl] at hx
      rw [X0, digs_one (by omega) (by omega)]
      have f2 : Feed 1 M ((if nlB 1 W i = true then [10] else []) ++ bs) ss := by
        split
        · exact .blank rfl f
        · exact f
      have := Feed.bit (K := 1) (M := M) (x := x) rfl (by omega) f2
      simpa using this
    | [], hl => simp at hl
    | _ :: _ :: _, hl => simp at hl; omega
  · have hn : nlB K W i = true := decide_eq_true (.inl (by omega))
    rw [hn, if_pos rfl]
    rcases hK with rfl | rfl
    · have e1 : QR 2 = 1 := rfl
      rw [e1] at hl
      match hu : Qp p, hl with
      | [x], _ =>
        have hx := hs x (by rw [hu]; simp)
        have := feed_num (K := 2) (M := M) (x := x) (c := 10) (by decide) hx.1 hx.2 rfl f
        simpa [X0] using this
      | [], hl => simp at hl
      | _ :: _ :: _, hl => simp at hl; omega
    · have e1 : QR 3 = 3 := rfl
      rw [e1] at hl
      match hu : Qp p, hl with
      | [x, y, z], _ =>
        have hx := hs x (by rw [hu]; simp)
        have hy := hs y (by rw [hu]; simp)
        have hz := hs z (by rw [hu]; simp)
        have f1 := feed_num (K := 3) (M := M) (x := z) (c := 10) (by decide) hz.1 hz.2 rfl f
        have f2 := feed_num (K := 3) (M := M) (x := y) (c := 32) (by decide) hy.1 hy.2 rfl f1
        have f3 := feed_num (K := 3) (M := M) (x := x) (c := 32) (by decide) hx.1 hx.2 rfl f2
        simpa [X0] using f3
      | [], hl => simp at hl
      | [_], hl => simp at hl
      | [_, _], hl => simp at hl
      | _ :: _ :: _ :: _ :: _, hl => simp at hl; omega
theorem feed_wr (h1 : 1 ≤ K) (h3 : K ≤ 3) (hM : K = 1 → M = 1) : ∀ (l : List Int) (i : Nat), (∀ p ∈ l, Can (QR K) M p) → Feed K M (ZI K W i l) (l.flatMap Qp)
  | [], _, _ => .nil
  | p :: l, i, h => by
    rw [ZI, List.flatMap_cons]
    exact feed_px h1 h3 hM (h p (by simp)) i (feed_wr h1 h3 hM l (i + 1) fun q hq => h q (by simp [hq]))
/-- A whole raster is read as it is. -/
theorem read_all (hP : Zq K W H M) {bs l : List Int} (f : Feed K M bs (l.flatMap Qp)) (hc : ∀ p ∈ l, Can (QR K) M p) (hl : (l.length : Int) = H * W) : ∃ j, Zz K W H M bs = (l, j, 0) := by
  have hP2 := hP.1
  unfold XG at hP2
  obtain ⟨s', hs⟩ := (rows_fold (K := K) (W := W) (H := H) (M := M) (by omega) l [] 0 hc (by simp; omega) (by omega)).1 (by simpa using hl)
  obtain ⟨j, hj⟩ := feed_over (H := H) (by omega) f s0R s' _ ⟨rfl, rfl, by simp [s0R]; omega⟩ hs 0 []
  exact ⟨j, by rw [Zz, if_pos hP, hj]; rfl⟩
end

end Go.Proofs.YtggamdlpiejbiaaGreat
namespace Go.Proofs.YtggamdlpiejbiaaGreat
open Go.RowKit Go.Shelf


theorem Yc (a b : ByteArray) : QJ (a ++ b) = QJ a ++ QJ b := by simp [QJ, ByteArray.data_append]
theorem Yj {xs : List Int} (h : ∀ x ∈ xs, 0 ≤ x ∧ x ≤ 255) : QJ (strOfNums xs) = xs := by
  unfold QJ strOfNums
  simp only [List.map_map]
  conv => rhs; rw [← List.map_id xs]
  refine List.map_congr_left fun x hx => ?_
  have := h x hx
  simp only [Function.comp, UInt8.toNat_ofNat', id]
  omega
theorem YF (xs : List Int) : (strOfNums xs).size = xs.length := by simp [strOfNums, ByteArray.size]
theorem Yz (n : Nat) : (XO n).length ≤ n + 1 := by
  induction n using Nat.strongRecOn with
  | _ n ih =>
    rw [XO]
    split
    · simp
    · have := ih (n / 10) (by omega)
      simp only [List.length_append, List.length_cons, List.length_nil]
      omega
theorem digs_rec {n : Int} (h : 10 ≤ n) : XO n.toNat = XO (n / 10).toNat ++ [48 + n % 10] := by
  rw [XO, if_neg (by omega)]
  congr 1
  · congr 1; omega
  · congr 1; omega
theorem can_of_fit {p ch M : Int} (h0 : 0 ≤ p) (h1 : p < 18446744073709551616) (h : Yw p ch M) : Can ch M p := by
  obtain ⟨hf, hl, hs⟩ := h
  unfold YY at hf
  refine ⟨hl, ?_, fun x hx => ⟨?_, hs x hx⟩⟩
  · unfold Qp at hl ⊢
    split
    · rename_i h3
      rw [pack_three (by unfold Vd; omega) (by unfold Vd; omega) (by unfold Vd; omega)]
      simp only
      omega
    · rename_i h3
      split
      · rename_i h4
        rw [pack_one (by unfold Vd; omega)]
        simp only
        omega
      · rename_i h4
        rw [if_neg h3, if_neg h4] at hl
        simp at hl
        omega
  · unfold Qp at hx
    split at hx
    · simp at hx; omega
    · split at hx
      · simp at hx; omega
      · simp at hx

theorem Decimal_spec (n : Int) (h0 : 0 ≤ n) (h1 : n ≤ 65535) : Fn Tryz.prog 118 #[.int .i64 n] [] (fun v l => ∃ s, v = .string s ∧ QJ s = XO n.toNat ∧ l = []) := by
 refine Ql (vs := [.int .i64 n]) Tryz.func118 rfl Tryz.ntmps118 rfl (Qb (Qa (Qd rfl rfl (WpL.nil (Qb (Qa (Qc rfl rfl (YD rfl rfl rfl (by omega) (by omega) ?_))))))))
 refine Qd rfl rfl (WpL.nil (Qb (Qb (Qa (Qc rfl rfl (Q8 rfl rfl rfl (WpL.nil (Qz rfl (by omega) ?_))))))))
 refine Wp.skip (Qb (Qa (Qc rfl rfl (QA rfl rfl rfl (Qo (by omega) (by omega)) ?_))))
 refine XY rfl Tryz.underlying3 rfl (w_u8 (by omega) (by omega)) ?_
 refine X4 rfl rfl rfl rfl ?_
 intro g1
 rw [show ([.int .u8 (48 + n % 10)] : List Value) = Xt [48 + n % 10] from rfl]
 refine s_b2s (xs := [48 + n % 10]) rfl Tryz.underlying22 Tryz.underlying5 Tryz.underlying9 rfl rfl (Qd rfl rfl (WpL.nil (Qb (Qb (Qa (Qc rfl rfl (XU rfl rfl rfl (Qc rfl rfl (Qx (dj := 18) rfl (decide_eq_true (by omega)) ?_)))))))))
 refine Qf rfl rfl (Qc rfl rfl (Qf rfl rfl (Q8 rfl rfl rfl (Qr rfl rfl rfl (WpL.nil (Qj rfl (fun h1 => ?_) (fun h1 => ?_)))))))
 ·refine Qb (Qb (Qa (Qc rfl rfl (Q8 rfl rfl rfl (WpL.nil (Qz rfl (by omega) ?_))))))
  refine Wp.skip (Qb (Qa (Qc rfl rfl (Qd rfl rfl (WpL.nil (Qh ?_))))))
  apply RetQ.mk
  ·exact (Res.one rfl rfl)
  ·exact ⟨_, rfl, by rw [Yj (by intro x hx; simp at hx; omega), XO, if_pos (by omega)]; congr 1; omega, rfl⟩
  ·exact Ent.nil _
 ·refine Wp.skip (Qb (Qa (Qc rfl rfl (YR rfl rfl rfl (by omega) (by omega) (Qo (by omega) (by omega)) ?_))))
  refine Qi rfl rfl (by repeat' constructor) (Decimal_spec (n / 10) (by omega) (by omega)) ?_
  rintro _ _ ⟨s1, rfl, hs1, rfl⟩
  simp only [Qs]
  have hsz1 : s1.size ≤ 65536 := by rw [← QZ, hs1]; have := Yz (n / 10).toNat; omega
  refine Qc rfl rfl (YC rfl rfl rfl (by rw [YF]; simp; omega) ?_)
  refine Qd rfl rfl (WpL.nil (Qh ?_))
  apply RetQ.mk
  ·exact (Res.one rfl rfl)
  ·exact ⟨_, rfl, by rw [Yc, hs1, Yj (by intro x hx; simp at hx; omega), digs_rec (n := n) (by omega)], rfl⟩
  ·exact Ent.nil _
termination_by n.toNat
decreasing_by omega


theorem ZF (K W H M : Int) (hK : 1 ≤ K) (hK6 : K ≤ 6) : Fn Tryz.prog 57 #[.agg #[.int .i64 K, .int .i64 W, .int .i64 H, .int .i64 M]] [] (fun v l => v = .agg #[.int .i64 (QR K), .int .i64 M] ∧ l = []) := by
 refine Ql (vs := [.agg #[.int .i64 K, .int .i64 W, .int .i64 H, .int .i64 M]]) Tryz.func57 rfl Tryz.ntmps57 rfl (Qb (Qa (Q2 rfl rfl rfl ?_)))
 intro g1
 refine XH rfl ?_
 intro g2
 refine WpL.nil (Qb (Qb (Qa (Qk (o2 := 0) rfl rfl rfl (Qn rfl rfl (by rfl) ?_)))))
 refine QH rfl rfl rfl (Qc rfl rfl (QN rfl rfl rfl (fun hg1 => ?_) (fun hg1 => ?_)))
 ·have hg1 := of_decide_eq_false hg1
  refine Qk (o2 := 0) rfl rfl rfl (Qf rfl rfl (Qn rfl rfl (by rfl) ?_))
  refine Qf rfl rfl (QH rfl rfl rfl (Qt rfl rfl rfl (WpL.nil (Qj rfl (fun h0 => ?_) (fun h0 => ?_)))))
  ·refine Qb (Qa (Qk (o2 := 3) rfl rfl rfl (Qn rfl rfl (by rfl) ?_)))
   refine Xu rfl rfl ?_
   refine QC rfl rfl rfl (by rfl) rfl ?_
   refine WpL.nil (Qh ?_)
   apply RetQ.mk
   ·exact (XC rfl rfl (by rfl))
   ·exact ⟨by rw [show QR K = 3 from if_pos (by omega)], rfl⟩
   ·exact Ent.nil _
  ·refine Wp.skip (Qb (Qa (Qk (o2 := 3) rfl rfl rfl (Qn rfl rfl (by rfl) ?_))))
   refine Xu rfl rfl ?_
   refine QC rfl rfl rfl (by rfl) rfl ?_
   refine WpL.nil (Qh ?_)
   apply RetQ.mk
   ·exact (XC rfl rfl (by rfl))
   ·exact ⟨by rw [show QR K = 1 from if_neg (by omega)], rfl⟩
   ·exact Ent.nil _
 ·have hg1 := of_decide_eq_true hg1
  refine Qe rfl rfl rfl (by decide) (Qe rfl rfl rfl (by decide) (Qr rfl rfl rfl (WpL.nil (Xn rfl (Qb (Qa (Qk (o2 := 3) rfl rfl rfl (Qn rfl rfl (by rfl) ?_))))))))
  refine Xu rfl rfl ?_
  refine QC rfl rfl rfl (by rfl) rfl ?_
  refine WpL.nil (Qh ?_)
  apply RetQ.mk
  ·exact (XC rfl rfl (by rfl))
  ·exact ⟨by rw [show QR K = 3 from if_pos (by omega)], rfl⟩
  ·exact Ent.nil _

theorem pack_bd {xs : List Int} (h : xs.length = 1 ∨ xs.length = 3) (hs : ∀ n ∈ xs, Vd n) : 0 ≤ (Xp xs).1 ∧ (Xp xs).1 < 18446744073709551616 := by
  have := packF_all (l := xs) (by omega) hs
  rw [packS_ok xs h hs]
  simp only
  omega
end Go.Proofs.YtggamdlpiejbiaaGreat
namespace Go.Proofs.YtggamdlpiejbiaaGreat
open Go.RowKit Go.Shelf


/-- A number's digits, the lowest first. -/
def ZE (b n : Nat) : List Int := if _h : n < b ∨ b < 2 then [((n % b : Nat) : Int)] else ((n % b : Nat) : Int) :: ZE b (n / b)
termination_by n
decreasing_by exact Nat.div_lt_self (by omega) (by omega)
theorem lowD_lt {b n : Nat} (h : n < b) : ZE b n = [((n % b : Nat) : Int)] := by rw [ZE, dif_pos (.inl h)]
theorem lowD_ge {b n : Nat} (h : b ≤ n) (hb : 2 ≤ b) : ZE b n = ((n % b : Nat) : Int) :: ZE b (n / b) := by rw [ZE, dif_neg (by omega)]
theorem lowD_head (b n : Nat) : ∃ t, ZE b n = ((n % b : Nat) : Int) :: t := by
  rw [ZE]
  split
  · exact ⟨_, rfl⟩
  · exact ⟨_, rfl⟩
theorem lowD_bd {b : Nat} (hb : 0 < b) (n : Nat) : ∀ x ∈ ZE b n, 0 ≤ x ∧ x < b := by
  induction n using Nat.strongRecOn with
  | _ n ih =>
    intro x hx
    have hm := Nat.mod_lt n hb
    rw [ZE] at hx
    split at hx
    · simp only [List.mem_singleton] at hx; subst hx; omega
    · rcases List.mem_cons.1 hx with rfl | hx
      · omega
      · exact ih (n / b) (Nat.div_lt_self (by omega) (by omega)) x hx
theorem drop_at0 {xs : List Int} {k : Nat} {x : Int} {t : List Int} (h : xs.drop k = x :: t) : ∃ hk : k < xs.length, xs[k] = x ∧ xs.drop (k + 1) = t := by
  have hk : k < xs.length := by
    have := congrArg List.length h
    simp at this; omega
  rw [List.drop_eq_getElem_cons hk] at h
  injection h with h1 h2
  exact ⟨hk, h1, h2⟩
theorem lowD_digs (n : Nat) : XO n = ((ZE 10 n).map fun x => 48 + x).reverse := by
  induction n using Nat.strongRecOn with
  | _ n ih =>
    by_cases h : n < 10
    · rw [lowD_lt h, XO, if_pos (by omega)]
      simp; omega
    · rw [lowD_ge (by omega) (by omega), XO, if_neg (by omega), ih (n / 10) (by omega)]
      simp
theorem lowD_len20 {b n : Nat} (hb : 10 ≤ b) (k : Nat) (h : n < 10 ^ (k + 1)) : (ZE b n).length ≤ k + 1 := by
  induction k generalizing n with
  | zero =>
    rw [lowD_lt (by omega)]; simp
  | succ k ih =>
    by_cases h2 : n < b
    · rw [lowD_lt h2]; simp
    · rw [lowD_ge (by omega) (by omega)]
      have : n / b < 10 ^ (k + 1) := by
        apply Nat.div_lt_of_lt_mul
        calc n < 10 ^ (k + 1 + 1) := h
          _ = 10 * 10 ^ (k + 1) := by rw [Nat.pow_succ]; omega
          _ ≤ b * 10 ^ (k + 1) := Nat.mul_le_mul_right _ hb
      have := ih this
      simp; omega
structure DgX where
  (k n : Nat) (m : List HP)

theorem digitsF_spec (b n : Nat) (hb : 2 ≤ b) (hb2 : b ≤ 256) (hn : n < 18446744073709551616) (g1 g2 y : Nat) (J Jx : Nat → List HP → Prop) (hY : ∀ k (h : k < (ZE b n).length) m, J k m → Yld Tryz.prog y ([.int .u8 (ZE b n)[k]] : List Value).toArray m (rdR J Jx k)) (m0 : List HP) (h0 : J 0 m0) : Fn Tryz.prog 197 #[.func (.yield y) #[] #[], .pointer (some ⟨g1, 0, none⟩), .pointer (some ⟨g2, 0, none⟩)] (QK g1 [.int .u64 (n : Int)] 91 :: QK g2 [.int .u64 (b : Int)] 91 :: m0) (fun _ l => ∃ m', (J (ZE b n).length m' ∨ ∃ k, k < (ZE b n).length ∧ Jx k m') ∧ l = m') := by
 refine Ql (vs := [.func (.yield y) #[] #[], .pointer (some ⟨g1, 0, none⟩), .pointer (some ⟨g2, 0, none⟩)]) Tryz.func197 rfl Tryz.ntmps197 rfl ?_
 refine Wp.block ?_
 refine Wp.loopD (σ := DgX) (fun x => J x.k x.m ∧ (ZE b n).drop x.k = ZE b x.n ∧ x.n < 18446744073709551616) [4, 5, 6, 7, 8, 9, 10, 11, 12, 13, 14, 15, 16, 17] (fun x => []) (fun x => (QK g1 [.int .u64 ((x.n : Nat) : Int)] 91 :: QK g2 [.int .u64 (b : Int)] 91 :: x.m)) (fun x => x.n) ⟨0, n, m0⟩ ?_ (by repeat (exact FrLe.nil)) ?_ ?_
 ·exact ⟨h0, rfl, hn⟩
 ·exact Ent.refl _
 ·rintro ⟨k, n1, m1⟩ ⟨hJ, hd, hn1⟩
  dsimp only at hJ hd hn1 ⊢
  obtain ⟨t1, ht1⟩ := lowD_head b n1
  obtain ⟨hk, hxk, hdk⟩ := drop_at0 (hd.trans ht1)
  have hbpos : (0 : Int) < (b : Int) := by omega
  have hmod := Nat.mod_lt n1 (show 0 < b by omega)
  have hY1 := hY k hk m1 hJ
  rw [hxk] at hY1
  refine Qb (Qb (Qa (Qc rfl rfl (Qn rfl rfl (by rfl) ?_))))
  refine Qn rfl rfl (by rfl) ?_
  refine YD rfl rfl rfl (by omega) (by omega) ?_
  rw [show ((n1 : Int) % (b : Int)) = ((n1 % b : Nat) : Int) from rfl]
  refine XY rfl Tryz.underlying91 rfl (w_u8 (by omega) (by omega)) ?_
  refine s_yield rfl rfl rfl rfl (by repeat (first | exact Take.all | apply Take.skip)) (hY1) ?_
  rintro v m' (⟨rfl, hm'⟩ | ⟨rfl, hm'⟩)
  ·simp only [Qs]
   refine Qc rfl rfl (Qf rfl rfl (Qn rfl rfl (by rfl) ?_))
   refine Qf rfl rfl (Qn rfl rfl (by rfl) ?_)
   refine Qf rfl rfl (s_ge rfl rfl rfl (Qr rfl rfl rfl (WpL.nil (Qj rfl (fun h1 => ?_) (fun h1 => ?_)))))
   ·refine Wp.skip (Wp.block ?_)
    refine Qa (Qn rfl rfl (by rfl) ?_)
    refine Qn rfl rfl (by rfl) ?_
    refine YR rfl rfl rfl (by omega) (by omega) (Vr (Int.ediv_nonneg (by omega) (by omega)) (by have := Nat.div_le_self n1 b; have e : ((n1 : Int) / (b : Int)) = ((n1 / b : Nat) : Int) := rfl; omega)) ?_
    refine QV rfl rfl rfl (WpL.nil (Qq (Q := fun _ _ _ _ => False) (⟨k + 1, n1 / b, m'⟩ : DgX) ?_ ?_ (by ((repeat (first | exact Top.refl | refine Top.push rfl ?_)); done)) (by repeat (exact FrLe.nil)) ?_))
    ·refine ⟨hm', ?_, Nat.lt_of_le_of_lt (Nat.div_le_self _ _) hn1⟩
     rw [hdk]
     rw [lowD_ge (by omega) hb] at ht1
     injection ht1 with _ ht1
     exact ht1.symm
    ·exact Nat.div_lt_self (by omega) (by omega)
    ·exact Ent.refl _
   ·refine QP ?_
    apply Zh
    ·exact (Yi rfl)
    ·exact ⟨m', .inl (by rw [show (ZE b n).length = k + 1 from by have e1 := congrArg List.length hdk; rw [lowD_lt (by omega)] at ht1; injection ht1 with _ ht1; rw [← ht1] at e1; simp at e1; omega]; exact hm'), rfl⟩
    ·(repeat (first | exact Ent.refl _ | refine Ent.drop ?_))
  ·simp only [Qs]
   refine Qc rfl rfl (Qe rfl rfl rfl (by decide) (Qe rfl rfl rfl (by decide) (Qe rfl rfl rfl (by decide) (Qt rfl rfl rfl (WpL.nil (QW rfl (QP ?_)))))))
   apply Zh
   ·exact (Yi rfl)
   ·exact ⟨m', .inr ⟨k, hk, hm'⟩, rfl⟩
   ·(repeat (first | exact Ent.refl _ | refine Ent.drop ?_))


structure RvX where
  (k : Nat) (ys : List Int)
def revK (xs : List Int) (k : Nat) (ys : List Int) : Prop := ys.length = xs.length ∧ ∀ i, i < xs.length → ys[i]? = if i < k ∨ xs.length ≤ i + k then xs[xs.length - 1 - i]? else xs[i]?
theorem revK_zero (xs : List Int) : revK xs 0 xs := ⟨rfl, fun i hi => by rw [if_neg (by omega)]⟩
theorem revK_done {xs ys : List Int} {k : Nat} (h : revK xs k ys) (hk : xs.length ≤ 2 * k + 1) : ys = xs.reverse := by
  apply List.ext_getElem?
  intro i
  by_cases hi : i < xs.length
  · rw [h.2 i hi, List.getElem?_reverse hi]
    split
    · rfl
    · rename_i hc
      rw [show xs.length - 1 - i = i by omega]
  · rw [List.getElem?_eq_none (by rw [h.1]; omega), List.getElem?_eq_none (by simp; omega)]
theorem revK_step {xs ys : List Int} {k : Nat} (h : revK xs k ys) (hk : 2 * k + 1 < xs.length) (h1 : xs.length - 1 - k < ys.length) (h2 : k < ys.length) : revK xs (k + 1) ((ys.set k ys[xs.length - 1 - k]).set (xs.length - 1 - k) ys[k]) := by
  have e1 : ys[k] = xs[k]'(by omega) := by
    have := h.2 k (by omega)
    rw [if_neg (by omega), List.getElem?_eq_getElem h2, List.getElem?_eq_getElem (by omega)] at this
    exact Option.some.inj this
  have e2 : ys[xs.length - 1 - k] = xs[xs.length - 1 - k]'(by omega) := by
    have := h.2 (xs.length - 1 - k) (by omega)
    rw [if_neg (by omega), List.getElem?_eq_getElem h1, List.getElem?_eq_getElem (by omega)] at this
    exact Option.some.inj this
  refine ⟨by simp [h.1], fun i hi => ?_⟩
  rw [List.getElem?_set, List.getElem?_set]
  simp only [List.length_set]
  by_cases a : xs.length - 1 - k = i
  · subst a
    rw [if_pos rfl, if_pos h1, if_pos (by omega), e1, show xs.length - 1 - (xs.length - 1 - k) = k by omega, List.getElem?_eq_getElem (by omega)]
  · rw [if_neg a]
    by_cases b : k = i
    · subst b
      rw [if_pos rfl, if_pos h2, if_pos (by omega), e2, List.getElem?_eq_getElem (by omega)]
    · rw [if_neg b, h.2 i hi]
      by_cases c : i < k ∨ xs.length ≤ i + k
      · rw [if_pos c, if_pos (by omega)]
      · rw [if_neg c, if_neg (by omega)]
theorem set_map {α : Type} (f : Int → α) (xs : List Int) (k : Nat) (x : Int) : (xs.map f).set k (f x) = (xs.set k x).map f := (List.map_set ..).symm
theorem u8s_set (xs : List Int) (k : Nat) (x : Int) : (Xt xs).set k (.int .u8 x) = Xt (xs.set k x) := set_map _ xs k x
theorem RevB_spec (a : Option Addr) (c : Nat) (xs : List Int) (hm : xs.length ≤ 140737488355328) : Fn Tryz.prog 178 #[.slice a xs.length c] [QX 5 1 a c xs.length (Xt xs)] (fun _ l => l = [QX 5 1 a c xs.length (Xt xs.reverse)]) := by
 refine Ql (vs := [.slice a xs.length c]) Tryz.func178 rfl Tryz.ntmps178 rfl (Qb (Qa (Qc rfl rfl (QO rfl rfl (Yp rfl rfl rfl (Qo (by omega) (by omega)) ?_)))))
 refine Qd rfl rfl (Qd rfl rfl (WpL.nil (Wp.block ?_)))
 refine Wp.loopD (σ := RvX) (fun x => 2 * x.k ≤ xs.length ∧ revK xs x.k x.ys) [2, 3, 7, 8, 9, 10, 11, 12, 13, 14, 15, 16, 17, 18, 19, 20, 21, 22, 23, 24, 25, 26, 27] (fun x => [(2, .int .i64 (x.k : Int)), (3, .int .i64 ((xs.length : Int) - 1 - x.k))]) (fun x => [QX 5 1 a c xs.length (Xt x.ys)]) (fun x => xs.length - x.k) ⟨0, xs⟩ ?_ (FrLe.cons rfl (FrLe.cons (by simp [lk]) FrLe.nil)) ?_ ?_
 ·exact ⟨by simp, revK_zero xs⟩
 ·exact Ent.refl _
 ·rintro ⟨k, ys⟩ ⟨hk, hr⟩
  dsimp only at hk hr ⊢
  have hyl := hr.1
  refine Qb (Qb (Qa (Qc rfl rfl (Qc rfl rfl (Q8 rfl rfl rfl (WpL.nil (Qj rfl (fun h1 => ?_) (fun h1 => ?_))))))))
  ·have h1 : xs.length - 1 - k < ys.length := by omega
   have h2 : k < ys.length := by omega
   refine Wp.skip (Qb (Wp.block ?_))
   apply Xe (fB := []) mixed [(13, false), (1, false)] (by kernel_rfl)
   apply Q7 [⟨0, 14, _, [], false⟩, ⟨1, 15, _, [], false⟩, ⟨2, 16, _, [], true⟩, ⟨3, 17, _, [], true⟩, ⟨4, 18, _, [], false⟩, ⟨5, 19, _, [], false⟩, ⟨6, 20, _, [4, 5], false⟩, ⟨7, 21, _, [6], false⟩, ⟨8, 22, _, [], false⟩, ⟨9, 23, _, [], false⟩, ⟨10, 24, _, [8, 9], false⟩, ⟨11, 25, _, [10], false⟩, ⟨12, 26, _, [0, 1, 4, 5, 6, 7, 11], false⟩] [] [0, 1, 4, 5, 6, 7, 8, 9, 10, 11, 12] [27, 16, 17] (.inl ⟨_, .nil⟩) rfl rfl rfl (by kernel_rfl) rfl rfl rfl
   ·refine AllF.cons rfl rfl rfl rfl ?_ ?_
    ·exact Qc rfl rfl (Qm rfl)
    refine AllF.cons rfl rfl rfl rfl ?_ ?_
    ·exact Qc rfl rfl (Qm rfl)
    refine QD rfl rfl rfl rfl ?_ ?_
    ·exact Qc rfl rfl (Qm rfl)
    refine QD rfl rfl rfl rfl ?_ ?_
    ·exact Qc rfl rfl (Qm rfl)
    refine AllF.cons rfl rfl rfl rfl ?_ ?_
    ·exact Qc rfl rfl (Qm rfl)
    refine AllF.cons rfl rfl rfl rfl ?_ ?_
    ·exact Qc rfl rfl (Qm rfl)
    refine AllF.cons rfl rfl rfl rfl ?_ ?_
    ·refine Xg (xs.length - 1 - k) rfl rfl rfl Q0 (by exact Take.ent' (by repeat' constructor)) (by omega) (by omega) (by rw [Xi]; omega) ?_
     exact Qm rfl
    refine AllF.cons rfl rfl rfl rfl ?_ ?_
    ·refine Xk rfl rfl Q0 (by exact Take.ent' (by repeat' constructor)) (YW ys h1) ?_
     exact Qm rfl
    refine AllF.cons rfl rfl rfl rfl ?_ ?_
    ·exact Qc rfl rfl (Qm rfl)
    refine AllF.cons rfl rfl rfl rfl ?_ ?_
    ·exact Qc rfl rfl (Qm rfl)
    refine AllF.cons rfl rfl rfl rfl ?_ ?_
    ·refine Xg k rfl rfl rfl Q0 (by exact Take.ent' (by repeat' constructor)) rfl (by omega) (by rw [Xi]; omega) ?_
     exact Qm rfl
    refine AllF.cons rfl rfl rfl rfl ?_ ?_
    ·refine Xk rfl rfl Q0 (by exact Take.ent' (by repeat' constructor)) (YW ys h2) ?_
     exact Qm rfl
    refine AllF.cons rfl rfl rfl rfl ?_ ?_
    ·refine Xg k rfl rfl rfl Q0 (by exact Take.ent' (by repeat' constructor)) rfl (by omega) (by rw [Xi]; omega) ?_
     exact Qm rfl
    exact AllF.nil
   ·refine s_sto rfl rfl rfl (by repeat' constructor) (by rw [Xi]; omega) ?_
    refine WpL.nil ⟨rfl, rfl, ?_⟩
    apply Q7 [⟨14, 27, _, [0, 1, 2, 3, 4, 5, 6, 7, 8, 9, 10, 11, 12, 13], false⟩] [2, 3] [2, 3, 14] [] (.inl ⟨_, .nil⟩) rfl rfl rfl (by kernel_rfl) rfl rfl rfl
    ·refine AllF.cons rfl rfl rfl rfl ?_ ?_
     ·refine Xg (xs.length - 1 - k) rfl rfl rfl Q0 (by exact Take.ent' (by repeat' constructor)) (by omega) (by omega) (by rw [List.length_set, Xi]; omega) ?_
      exact Qm rfl
     exact AllF.nil
    ·refine s_sto rfl rfl rfl (by repeat' constructor) (by rw [List.length_set, Xi]; omega) ?_
     refine WpL.nil ⟨rfl, rfl, ?_⟩
     apply GoR.nil [] (.inr rfl) rfl rfl
     ·exact AllF.nil
     ·refine Qa (Qc rfl rfl (QA rfl rfl rfl (Qo (by omega) (by omega)) ?_))
      refine Qc rfl rfl (Yp rfl rfl rfl (Qo (by omega) (by omega)) ?_)
      refine Qd rfl rfl (Qd rfl rfl (WpL.nil (Qq (⟨k + 1, (ys.set k (ys[xs.length - 1 - k]'h1)).set (xs.length - 1 - k) (ys[k]'h2)⟩ : RvX) ?_ ?_ (by ((repeat (first | exact Top.refl | refine Top.push rfl ?_)); done)) (FrLe.cons rfl (FrLe.cons (congrArg (fun x => some (Value.int .i64 x)) (show ((xs.length : Int) - 1 - (k : Int) - 1) = (xs.length : Int) - 1 - ((k + 1 : Nat) : Int) by omega)) FrLe.nil)) ?_)))
      ·exact ⟨by simp only; omega, revK_step hr (by omega) h1 h2⟩
      ·simp only; omega
      ·rw [u8s_set, u8s_set]; exact Ent.refl _
  ·refine QP ?_
   have he := revK_done hr (by omega)
   subst he
   apply Zh
   ·exact (Yi rfl)
   ·exact rfl
   ·exact Ent.refl _

theorem digitsM_spec (n b : Int) : Fn Tryz.prog 177 #[.int .u64 n, .int .u64 b] [] (fun v l => ∃ g1 g2, v = .func (.func 197) #[] #[.pointer (some ⟨g1, 0, none⟩), .pointer (some ⟨g2, 0, none⟩)] ∧ l = [QK g1 [.int .u64 n] 91, QK g2 [.int .u64 b] 91]) := by
 refine Ql (vs := [.int .u64 n, .int .u64 b]) Tryz.func177 rfl Tryz.ntmps177 rfl (Qb (Qa (Q2 rfl rfl rfl ?_)))
 intro g1
 refine Q2 rfl rfl rfl ?_
 intro g2
 refine Qd rfl rfl (WpL.nil (Qb (Qa (s_mkf rfl (fun a hh => Ys hh _ _ rfl) ?_))))
 refine Qd rfl rfl (WpL.nil (Qh ?_))
 apply RetQ.mk
 ·exact (Res.one rfl rfl)
 ·exact ⟨_, _, rfl, rfl⟩
 ·exact Take.ent' (by repeat' constructor)


theorem map_take_snoc {f : Int → Int} (xs : List Int) {k : Nat} (h : k < xs.length) : (xs.take k).map f ++ [f xs[k]] = (xs.take (k + 1)).map f := by
  rw [Xo xs h, List.map_append]; rfl
theorem digs_bd (n : Nat) : ∀ x ∈ XO n, 48 ≤ x ∧ x ≤ 57 := by
  intro x hx
  rw [lowD_digs, List.mem_reverse, List.mem_map] at hx
  obtain ⟨y, hy, rfl⟩ := hx
  have := lowD_bd (b := 10) (by omega) n y hy
  omega

theorem ZJ (n : Int) (h0 : 0 ≤ n) (h1 : n < 9223372036854775808) : Fn Tryz.prog 135 #[.int .i64 n] [] (fun v l => v = .string (strOfNums (XO n.toNat)) ∧ l = []) := by
 have hlen := lowD_len20 (b := 10) (n := n.toNat) (by omega) 18 (by omega)
 refine Ql (vs := [.int .i64 n]) Tryz.func135 rfl Tryz.ntmps135 rfl (Qb (Qa (Qd rfl rfl (WpL.nil (Qb (Qa (Qc rfl rfl (XY rfl Tryz.underlying3 rfl (Vr (by omega) (by omega)) ?_))))))))
 refine Qd rfl rfl (WpL.nil (Qb (Qa (XH rfl ?_))))
 intro g3
 refine WpL.nil (Qb (Qb (Qa (Qc rfl rfl (Q8 rfl rfl rfl (WpL.nil (Qz rfl (by omega) ?_)))))))
 refine Wp.skip (Qb (Qb (Qa (Qc rfl rfl (Qi rfl rfl (by repeat' constructor) (digitsM_spec _ _) ?_)))))
 rintro _ _ ⟨g1, g2, rfl, rfl⟩
 simp only [Qs]
 refine WpL.nil (Wp.block ?_)
 refine Wp.rangeF (encs := fun (x : Int) => [Value.int .u8 x]) (xs := ZE 10 n.toNat) (QX := [QK g1 [.int .u64 n] 91, QK g2 [.int .u64 10] 91]) (own' := []) (m0 := [QK g3 [.slice none 0 0] 22, QX 5 1 none 0 0 []]) rfl rfl (fun y J Jx hY m h0 => (show n = ((n.toNat : Nat) : Int) by omega) ▸ digitsF_spec 10 n.toNat (by omega) (by omega) (by omega) g1 g2 y J Jx hY m h0) (fun _ => rfl) rfl (fun k m => ∃ a c, m = [QK g3 [.slice a k c] 22, QX 5 1 a c k (Xt (((ZE 10 n.toNat).take k).map fun x => 48 + x))]) (fun _ _ _ => False) ?_ ?_ ?_ ?_ ?_
 ·exact ⟨none, 0, rfl⟩
 ·exact (Ent.own_nil (T := 5) (s := 1) (Ent.refl _)).trans (Take.ent' (by repeat' constructor))
 ·intro y k hk m hm
  obtain ⟨a1, c1, rfl⟩ := hm
  refine Qa (Qd rfl rfl (WpL.nil (⟨rfl, rfl, ?_⟩)))
  have hx := lowD_bd (b := 10) (by omega) n.toNat (ZE 10 n.toNat)[k] (List.getElem_mem hk)
  refine Wp.block ?_
  refine Qa (Qn rfl rfl (by rfl) ?_)
  refine Qc rfl rfl (QA rfl rfl rfl (w_u8 (by omega) (by omega)) ?_)
  refine X4 rfl rfl rfl rfl ?_
  intro g2
  refine XN rfl rfl rfl (by repeat' constructor) (by rfl) (by rfl) (by rfl) (by rfl) (by omega) (by omega) ?_
  intro a19 c19
  refine QV rfl rfl rfl (WpL.nil ?_)
  rw [ZT, map_take_snoc (f := fun x => 48 + x) _ hk]
  exact ⟨_, ⟨a19, c19, rfl⟩, by exact Take.ent' (by repeat' constructor)⟩
 ·intro q1 m hm
  obtain ⟨a1, c1, rfl⟩ := hm
  simp only [Qs]
  rw [List.take_length, show (ZE 10 n.toNat).length = ((ZE 10 n.toNat).map fun x => 48 + x).length from by simp]
  refine Qb (Qb (Qa (Qc rfl rfl (Q8 rfl rfl rfl (WpL.nil (Qz rfl (by omega) ?_))))))
  refine Wp.skip (Qb (Qa (Qn rfl rfl (by rfl) ?_)))
  refine Qi rfl rfl (by repeat' constructor) (RevB_spec _ _ _ (by simp; omega)) ?_
  rintro _ _ rfl
  simp only [Qs]
  refine WpL.nil (Qb (Qa (Qn rfl rfl (by rfl) ?_)))
  rw [← lowD_digs]
  refine s_b2so rfl Tryz.underlying22 Tryz.underlying5 Tryz.underlying9 rfl (by repeat' constructor) ?_
  refine Qd rfl rfl (WpL.nil (Qh ?_))
  apply RetQ.mkR [q1] rfl (by repeat' constructor)
  ·exact (Res.one rfl rfl)
  ·exact ⟨rfl, rfl⟩
  ·exact Ent.nil _
 ·exact fun _ _ _ _ _ h => h.elim


end Go.Proofs.YtggamdlpiejbiaaGreat
