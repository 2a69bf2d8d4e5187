/- Walks and plain laws, a part of the proof of PnmTwice: every input that the law's guards let in, no condition beside. -/
import Derived.Test.YtggamdlpiejbiaaGreatM22
namespace Go.Proofs.YtggamdlpiejbiaaGreat
open Go.RowKit Go.Shelf

set_option maxHeartbeats 2000000 in
theorem rplain_spec (A0 : HP) (a0 : Option Addr) (c0 : Nat) (bs : List Int) (hA : RdsL [A0] a0 (XY bs)) (hbs : ∀ x ∈ bs, 0 ≤ x ∧ x ≤ 255) (_hc0 : bs.length ≤ c0) (hbl : bs.length ≤ 100000000000) (at0 : Nat) (hat : at0 ≤ bs.length) (h : HS) (hf : Yo h) (hK : ¬ (4 ≤ h.K ∧ h.K ≤ 6)) (fin : Bool) : Fn Tryz.prog 58 #[.slice a0 bs.length c0, .int .i64 (at0 : Int), .agg #[.int .i64 h.K, .int .i64 h.W, .int .i64 h.H, .int .i64 h.M], .bool fin] [A0] (fun v l => ∃ a c out to f, (∀ l0 l1 l2 imgs, Y4 l0 l1 l2 fin h (.pl s0R) bs at0 imgs out to f) ∧ ((at0 : Int) ≤ to ∧ to ≤ bs.length) ∧ (out.length : Int) ≤ to - at0 + 2 ∧ ((f = 0 → ∃ t rows, out = rows ++ [Zn t] ∧ ∀ x ∈ rows, evRw x) ∧ (f ≠ 0 → ∀ x ∈ out, evRw x)) ∧ v = .tuple #[.slice a out.length c, .int .i64 to, .int .i64 f] ∧ l = [esR a c out, A0]) := by
 have hM := hf.2.2
 have hch := Vd h.K
 refine Qo (vs := [.slice a0 bs.length c0, .int .i64 (at0 : Int), .agg #[.int .i64 h.K, .int .i64 h.W, .int .i64 h.H, .int .i64 h.M], .bool fin]) Tryz.func58 rfl Tryz.ntmps58 rfl (Qb (Qa (Xf rfl rfl rfl ?_)))
 intro g1
 refine Qd rfl rfl (Qd rfl rfl (Qd rfl rfl (WpL.nil (Qb (Qa (Qd rfl rfl (WpL.nil (Qb (Qa ?_)))))))))
 refine Qz (vs := [_, _, _, _]) rfl rfl rfl (by rfl) ?_
 refine Qk rfl rfl (by repeat' constructor) (rNew_spec _ _ _ _) ?_
 rintro _ _ ⟨rfl, rfl⟩
 simp only [Qv]
 refine X6 rfl ?_
 intro gR
 refine QE rfl rfl rfl (by rfl) rfl ?_
 refine WpL.nil (Qb (Wp.block ?_))
 refine Wp.loopD (σ := RpX) (fun x => at0 ≤ x.at_ ∧ x.at_ ≤ bs.length ∧ rsO h (x.at_ - at0) ⟨x.n, x.one, x.row, x.rows, x.last, x.e⟩ ∧ x.out.length ≤ x.at_ - at0 ∧ (∀ z ∈ x.out, evRw z) ∧ (∀ l0 l1 l2 imgs, plI l0 l1 l2 h bs at0 imgs ⟨x.n, x.one, x.row, x.rows, x.last, x.e⟩ x.at_ x.out)) [1, 11, 13, 14, 19, 20, 21, 22, 23, 24, 25, 26, 27, 28, 29, 30, 31, 32, 33, 34, 35, 36, 37, 38, 39, 40, 41, 42, 43, 44, 45, 46, 47, 48] (fun x => [(1, .int .i64 (x.at_ : Int)), (11, .slice x.aO x.out.length x.cO)]) (fun x => [QD gR [.int .i64 h.K, .int .i64 h.W, .int .i64 h.H, .int .i64 h.M, .int .i64 x.n, .slice x.a1 x.one.length x.c1, .slice x.a2 x.row.length x.c2, .int .i64 x.rows, .int .i64 x.last, .int .i64 x.e] 175, own 3 1 x.a1 x.c1 x.one.length (Q2 x.one), own 92 1 x.a2 x.c2 x.row.length (XG x.row), esR x.aO x.cO x.out, A0]) (fun x => bs.length - x.at_) ⟨at0, -1, [], [], 0, 0, 0, none, 0, none, 0, [], none, 0⟩ ?_ (by repeat (first | exact FrLe.nil | refine FrLe.cons rfl ?_)) ?_ ?_
 ·refine ⟨Nat.le_refl _, hat, ⟨⟨by simp; omega, by simp, by simp, by simp⟩, ⟨by simp, fun _ => rfl, by simp; have := hM.2.1; omega⟩, .inl rfl⟩, by simp, fun z hz => by simp at hz, fun l0 l1 l2 imgs => plI0 l0 l1 l2 h bs at0 imgs⟩
 ·refine Ent.trans (m := [QD gR _ _, A0]) (Take.ent' (by repeat' constructor)) (Ent.cons (Ent.own_nil (Ent.own_nil (ZX (Ent.refl _)))))
 ·rintro ⟨at_, n, one, row, rows, last, e, a1, c1, a2, c2, out, aO, cO⟩ ⟨ha0, ha1, hro, hol, hkk, hpl⟩
  dsimp only at ha0 ha1 hro hol hkk hpl ⊢
  obtain ⟨hi, hg, hla⟩ := id hro
  obtain ⟨hq1, hq1b, hq3, hq4b⟩ := id hi
  obtain ⟨hqn, hqk, hq2⟩ := id hg
  dsimp only at hq1 hq1b hq3 hq4b hqn hqk hq2 hla
  have hq4 : rows ≤ 2 ^ 60 := (by omega)
  refine Qb (Qb (Qa (Qc rfl rfl (Qc rfl rfl (QO rfl rfl (Xc rfl rfl rfl (Qc rfl rfl (QP rfl rfl rfl (fun hg1 => ?_) (fun hg1 => ?_)))))))))
  ·have hg1 := of_decide_eq_true hg1
   refine Qj (o2 := 8) rfl rfl rfl (Qf rfl rfl (Qm rfl rfl (by rfl) ?_))
   refine Qf rfl rfl (QJ rfl rfl rfl (Qr rfl rfl rfl (WpL.nil (Qh rfl (fun h1 => ?_) (fun h1 => ?_)))))
   ·have hl0 : last = 0 := by omega
    have hlt : at_ < bs.length := by omega
    have hcb := hbs _ (List.getElem_mem hlt)
    have hdc : bs.drop at_ = bs[at_] :: bs.drop (at_ + 1) := List.drop_eq_getElem_cons hlt
    refine Wp.skip (Wp.block ?_)
    refine Qb ?_
    apply YN (fB := []) mixed 9 [(5, false), (3, true)] rfl rfl (by kernel_rfl)
    apply Xd [⟨0, 29, _, [], false⟩, ⟨1, 30, _, [], false⟩, ⟨2, 31, _, [], false⟩, ⟨3, 32, _, [1, 2], false⟩, ⟨4, 33, _, [3], false⟩] [] [0, 1, 2, 3, 4] [28, 35, 36, 13, 14] (.inr rfl) rfl rfl rfl (by kernel_rfl) rfl rfl rfl
    ·refine AllF.cons rfl rfl rfl rfl ?_ ?_
     ·refine Qz (vs := [_, _, _, _, _, _, _, _, _, _]) rfl rfl rfl (by rfl) ?_
      exact Qn rfl
     refine AllF.cons rfl rfl rfl rfl ?_ ?_
     ·exact Qc rfl rfl (Qn rfl)
     refine AllF.cons rfl rfl rfl rfl ?_ ?_
     ·exact Qc rfl rfl (Qn rfl)
     refine AllF.cons rfl rfl rfl rfl ?_ ?_
     ·refine Xs at_ rfl rfl rfl hA (by exact Take.ent' (by repeat' constructor)) rfl (by omega) (by rw [XP]; exact hlt) ?_
      exact Qn rfl
     refine AllF.cons rfl rfl rfl rfl ?_ ?_
     ·refine Xv rfl rfl hA (by exact Take.ent' (by repeat' constructor)) (Zl bs hlt) ?_
      exact Qn rfl
     exact AllF.nil
    ·refine Qk rfl rfl (by repeat' constructor) (rPut_spec _ _ _ _ _ _ _ _ _ _ _ _ _ _ _ hcb.1 hcb.2 (by have := hM.1; omega) (by have := hM.1; omega) hq1 hq2 (by have := hM.2.1; omega) hq3 hq4 hqn hqk (by have := hM.2.2.2.1; omega) (by have := hM.2.2.2.1; omega)) ?_
     rintro _ _ ⟨n2, one2, row2, rows2, last2, e2, out2, a1, c1, a2, c2, a3, c3, hs2, rfl, rfl⟩
     simp only [Qv]
     have hw2 : out2.length ≤ 4096 := by have q := putR_w (K := h.K) (H := h.H) (M := h.M) (c := bs[at_]) (s := ⟨n, one, row, rows, last, e⟩) hq2 (by have := hM.2.1; omega); rw [← hs2] at q; exact q
     have hro2 := rsO_put hM hro hl0 hs2
     rw [show at_ - at0 + 1 = at_ + 1 - at0 by omega] at hro2
     refine WpL.nil ⟨rfl, rfl, ?_⟩
     apply Y5 [⟨6, 28, _, [5], false⟩, ⟨7, 35, _, [6], false⟩, ⟨8, 36, _, [6], true⟩] [] [6, 7] [14, 36] (.inl ⟨_, .nil⟩) rfl rfl rfl (by kernel_rfl) rfl rfl rfl rfl
     ·refine AllF.cons rfl rfl rfl rfl ?_ ?_
      ·exact Qc rfl rfl (Qn rfl)
      refine AllF.cons rfl rfl rfl rfl ?_ ?_
      ·exact QL rfl rfl rfl (Qn rfl)
      refine QR rfl rfl rfl rfl ?_ ?_
      ·exact QL rfl rfl rfl (Qn rfl)
      exact AllF.nil
     ·intro gS
      refine QE rfl rfl rfl (by rfl) rfl ?_
      refine WpL.nil ⟨rfl, rfl, ?_⟩
      apply GoR.nil [⟨11, 14, _, [0, 1, 2, 3, 4, 5, 6, 7, 8, 9, 10], false⟩] (.inl ⟨_, .nil⟩) rfl rfl
      ·refine AllF.cons rfl rfl rfl rfl ?_ ?_
       ·exact Qd rfl rfl (Qn rfl)
       exact AllF.nil
      ·refine Qb (Qa ?_)
       refine Qz (vs := [_, _, _, _, _, _, _, _, _, _]) rfl rfl rfl (by rfl) ?_
       refine QE rfl rfl rfl (by rfl) rfl ?_
       refine WpL.nil (Qb (Qa (Qc rfl rfl (Qx rfl rfl rfl (Qp (by omega) (by omega)) ?_))))
       refine Qd rfl rfl (WpL.nil (Qb (Qa (Qc rfl rfl (QO rfl rfl (XJ rfl rfl rfl (WpL.nil (Qh rfl (fun h2 => ?_) (fun h2 => ?_)))))))))
       ·have hne : out2 ≠ [] := fun q => by rw [q] at h2; simp at h2
        refine Qa (Qc rfl rfl (Qc rfl rfl (Qc rfl rfl ?_)))
        refine Xl rfl rfl ?_
        refine XT rfl rfl (by rfl) (by rfl) (by rfl) (by rfl) ?_
        intro g4
        refine Yc ((⟨2, 0, 0, 0, 0, out2⟩, ((at_ + 1 : Nat) : Int))) rfl rfl rfl (by repeat' constructor) rfl (by rfl) (by rfl) (by rfl) (by rfl) (by omega) (by omega) ?_
        intro a48 c48
        refine Qd rfl rfl (WpL.nil (Qq (Q := fun _ _ _ _ => False) (⟨at_ + 1, n2, one2, row2, rows2, last2, e2, a1, c1, a2, c2, out ++ [(⟨2, 0, 0, 0, 0, out2⟩, ((at_ + 1 : Nat) : Int))], a48, c48⟩ : RpX) ?_ ?_ (by ((repeat (first | exact Top.refl | refine Top.push rfl ?_)); done)) (by repeat (first | exact FrLe.nil | refine FrLe.cons rfl ?_)) ?_))
        ·exact ⟨by simp only; omega, by simp only; omega, hro2, by simp only [List.length_append, List.length_cons, List.length_nil]; omega, fun x hx => by rcases List.mem_append.1 hx with hx | hx; exact hkk x hx; rw [List.mem_singleton.1 hx]; exact ⟨rfl, hw2⟩, fun l0 l1 l2 imgs => by have q := plI_step (hpl l0 l1 l2 imgs) hl0 hdc hs2; rw [atE_some hne] at q; exact q⟩
        ·simp only; omega
        ·exact Take.ent' (by repeat' constructor)
       ·have he2 : out2 = [] := List.eq_nil_of_length_eq_zero (by omega)
        refine Wp.skip (Qq (Q := fun _ _ _ _ => False) (⟨at_ + 1, n2, one2, row2, rows2, last2, e2, a1, c1, a2, c2, out, aO, cO⟩ : RpX) ?_ ?_ (by ((repeat (first | exact Top.refl | refine Top.push rfl ?_)); done)) (by repeat (first | exact FrLe.nil | refine FrLe.cons rfl ?_)) ?_)
        ·exact ⟨by simp only; omega, by simp only; omega, hro2, by simp only; omega, hkk, fun l0 l1 l2 imgs => by have q := plI_step (hpl l0 l1 l2 imgs) hl0 hdc hs2; rw [atE_none he2, List.append_nil] at q; exact q⟩
        ·simp only; omega
        ·exact Take.ent' (by repeat' constructor)
   ·refine QV (Qb (Qb (Qa (Qj (o2 := 8) rfl rfl rfl (Qm rfl rfl (by rfl) ?_)))))
    refine QJ rfl rfl rfl (Qc rfl rfl (QP rfl rfl rfl (fun hg2 => ?_) (fun hg2 => ?_)))
    ·have hg2 := of_decide_eq_true hg2
     refine Qc rfl rfl (Qr rfl rfl rfl (WpL.nil (XH rfl (fun h3 => ?_) (fun h3 => ?_))))
     ·have hl0 : last = 0 := by omega
      have hat2 : bs.length ≤ at_ := by omega
      subst h3
      refine Qb (Qa ?_)
      refine Qz (vs := [_, _, _, _, _, _, _, _, _, _]) rfl rfl rfl (by rfl) ?_
      refine Qk rfl rfl (by repeat' constructor) (rEnd_spec _ _ _ _ _ _ _ _ _ _ _ _ _ _ (by have := hM.1; omega) (by have := hM.1; omega) hq1 hq2 (by have := hM.2.1; omega) hq3 hq4 hqn hqk (by have := hM.2.2.2.1; omega) (by have := hM.2.2.2.1; omega)) ?_
      rintro _ _ ⟨n5, one5, row5, rows5, last5, e5, out5, a1, c1, a2, c2, a3, c3, hs5, rfl, rfl⟩
      simp only [Qv]
      have hw5 : out5.length ≤ 4096 := by have q := endR_w (K := h.K) (H := h.H) (s := ⟨n, one, row, rows, last, e⟩) hq2 (by have := hM.2.1; omega); rw [← hs5] at q; exact q
      have hl5 := endR_last3 (K := h.K) (W := h.W) (H := h.H) (s := (⟨n, one, row, rows, last, e⟩ : RS)) hl0
      have hl5n := endR_last (K := h.K) (W := h.W) (H := h.H) (s := (⟨n, one, row, rows, last, e⟩ : RS))
      have he6 : last5 = 2 → e5 = 6 := fun q => by have := endR_e (K := h.K) (W := h.W) (H := h.H) (s := (⟨n, one, row, rows, last, e⟩ : RS)) hl0; rw [← hs5] at this; exact this q
      rw [← hs5] at hl5 hl5n
      dsimp only at hl5 hl5n
      refine Qc rfl rfl (QL rfl rfl rfl (QL rfl rfl rfl (X6 rfl ?_)))
      intro gT
      refine QE rfl rfl rfl (by rfl) rfl ?_
      refine Qd rfl rfl (WpL.nil (Qb (Qa ?_)))
      refine Qz (vs := [_, _, _, _, _, _, _, _, _, _]) rfl rfl rfl (by rfl) ?_
      refine QE rfl rfl rfl (by rfl) rfl ?_
      refine WpL.nil (Qb (Qb (Qa (Qc rfl rfl (QO rfl rfl (XJ rfl rfl rfl (WpL.nil (Qh rfl (fun h4 => ?_) (fun h4 => ?_)))))))))
      ·have hne : out5 ≠ [] := fun q => by rw [q] at h4; simp at h4
       refine Qa (Qc rfl rfl (Qc rfl rfl (Qc rfl rfl (Qx rfl rfl rfl (Qp (by omega) (by omega)) ?_))))
       refine Xl rfl rfl ?_
       refine XT rfl rfl (by rfl) (by rfl) (by rfl) (by rfl) ?_
       intro g6
       refine Yc ((⟨2, 0, 0, 0, 0, out5⟩, (at_ : Int) + 1)) rfl rfl rfl (by repeat' constructor) rfl (by rfl) (by rfl) (by rfl) (by rfl) (by omega) (by omega) ?_
       intro a70 c70
       refine Qd rfl rfl (WpL.nil (Qb (Qa (Qj (o2 := 8) rfl rfl rfl (Qm rfl rfl (by rfl) ?_)))))
       refine QJ rfl rfl rfl (WpL.nil (Qh rfl (fun h5 => ?_) (fun h5 => ?_)))
       ·refine Qb (Qa (Qc rfl rfl (Qc rfl rfl (Qx rfl rfl rfl (Qp (by omega) (by omega)) ?_))))
        refine Xl rfl rfl ?_
        refine XT rfl rfl (by rfl) (by rfl) (by rfl) (by rfl) ?_
        intro g7
        refine WpL.ent (Ent.own_nil (T := 92) (s := 1) (Ent.refl _)) ?_
        refine Yc (Zn ((at_ : Int) + 1)) rfl rfl rfl (by repeat' constructor) rfl (by rfl) (by rfl) (by rfl) (by rfl) (by omega) (by omega) ?_
        intro a79 c79
        refine Qc rfl rfl (Qd rfl rfl (Qd rfl rfl (Qd rfl rfl (WpL.nil (Qg ?_)))))
        apply RetQ.mk
        ·exact (Res.three rfl rfl rfl rfl)
        ·(exfalso; omega)
        ·exact Ent.refl _
       ·refine Wp.skip (Qb (Qb (Qa (Qj (o2 := 8) rfl rfl rfl (Qm rfl rfl (by rfl) ?_)))))
        refine QJ rfl rfl rfl (WpL.nil (Qh rfl (fun h6 => ?_) (fun h6 => ?_)))
        ·refine Qb (Qa (Qc rfl rfl (Qc rfl rfl ?_)))
         refine Xl rfl rfl ?_
         refine XT rfl rfl (by rfl) (by rfl) (by rfl) (by rfl) ?_
         intro g8
         refine WpL.ent (Ent.own_nil (T := 92) (s := 1) (Ent.refl _)) ?_
         (refine Yc (Zn at_) rfl rfl rfl (by repeat' constructor) rfl (by rfl) (by rfl) (by rfl) (by rfl) (by omega) (by omega) ?_)
         intro a88 c88
         refine Qc rfl rfl (Qd rfl rfl (Qd rfl rfl (Qd rfl rfl (WpL.nil (Qg ?_)))))
         apply RetQ.mk
         ·exact (Res.three rfl rfl rfl rfl)
         ·(exfalso; omega)
         ·exact Ent.refl _
        ·refine Wp.skip (Qb (Qb (Qa (Qj (o2 := 8) rfl rfl rfl (Qm rfl rfl (by rfl) ?_)))))
         refine QJ rfl rfl rfl (WpL.nil (Qh rfl (fun h7 => ?_) (fun h7 => ?_)))
         ·refine Qb ?_
          apply Q3 mixed [⟨93, _, []⟩, ⟨94, _, []⟩, ⟨95, _, []⟩, ⟨96, _, [2]⟩, ⟨8, _, [0]⟩, ⟨9, _, [1, 4, 0]⟩, ⟨10, _, [3, 5, 0, 1, 2, 4]⟩] rfl
          ·refine AllObs.mk ?_ ?_
           ·exact Qc rfl rfl (Qn rfl)
           refine AllObs.mk ?_ ?_
           ·exact Qc rfl rfl (Qn rfl)
           refine AllObs.mk ?_ ?_
           ·exact Qj (o2 := 9) rfl rfl rfl (Qn rfl)
           refine AllObs.mk ?_ ?_
           ·refine Qm rfl rfl (by rfl) ?_
            exact Qn rfl
           refine AllObs.mk ?_ ?_
           ·exact Qd rfl rfl (Qn rfl)
           refine AllObs.mk ?_ ?_
           ·exact Qd rfl rfl (Qn rfl)
           refine AllObs.mk ?_ ?_
           ·exact Qd rfl rfl (Qn rfl)
           exact AllObs.nil
          ·refine Qg ?_
           apply RetQ.mk
           ·exact (Res.three rfl rfl rfl rfl)
           ·(exfalso; omega)
           ·exact Ent.refl _
         ·refine Wp.skip (Qb (Qa (Qc rfl rfl (Qc rfl rfl (Qd rfl rfl (Qd rfl rfl (Qd rfl rfl (WpL.nil (Qg ?_)))))))))
          apply RetQ.mk
          ·exact (Res.three rfl rfl rfl rfl)
          ·(exfalso; omega)
          ·exact Ent.refl _
      ·have he5 : out5 = [] := List.eq_nil_of_length_eq_zero (by omega)
       refine Wp.skip (Qb (Qa (Qj (o2 := 8) rfl rfl rfl (Qm rfl rfl (by rfl) ?_))))
       refine QJ rfl rfl rfl (WpL.nil (Qh rfl (fun h5 => ?_) (fun h5 => ?_)))
       ·refine Qb (Qa (Qc rfl rfl (Qc rfl rfl (Qx rfl rfl rfl (Qp (by omega) (by omega)) ?_))))
        refine Xl rfl rfl ?_
        refine XT rfl rfl (by rfl) (by rfl) (by rfl) (by rfl) ?_
        intro g9
        refine WpL.ent (Ent.own_nil (T := 92) (s := 1) (Ent.refl _)) ?_
        refine Yc (Zn ((at_ : Int) + 1)) rfl rfl rfl (by repeat' constructor) rfl (by rfl) (by rfl) (by rfl) (by rfl) (by omega) (by omega) ?_
        intro a79 c79
        refine Qc rfl rfl (Qd rfl rfl (Qd rfl rfl (Qd rfl rfl (WpL.nil (Qg ?_)))))
        apply RetQ.mk
        ·exact (Res.three rfl rfl rfl rfl)
        ·(exfalso; omega)
        ·exact Ent.refl _
       ·refine Wp.skip (Qb (Qb (Qa (Qj (o2 := 8) rfl rfl rfl (Qm rfl rfl (by rfl) ?_)))))
        refine QJ rfl rfl rfl (WpL.nil (Qh rfl (fun h6 => ?_) (fun h6 => ?_)))
        ·refine Qb (Qa (Qc rfl rfl (Qc rfl rfl ?_)))
         refine Xl rfl rfl ?_
         refine XT rfl rfl (by rfl) (by rfl) (by rfl) (by rfl) ?_
         intro g10
         refine WpL.ent (Ent.own_nil (T := 92) (s := 1) (Ent.refl _)) ?_
         (refine Yc (Zn at_) rfl rfl rfl (by repeat' constructor) rfl (by rfl) (by rfl) (by rfl) (by rfl) (by omega) (by omega) ?_)
         intro a88 c88
         refine Qc rfl rfl (Qd rfl rfl (Qd rfl rfl (Qd rfl rfl (WpL.nil (Qg ?_)))))
         apply RetQ.mk
         ·exact (Res.three rfl rfl rfl rfl)
         ·(exfalso; omega)
         ·exact Ent.refl _
        ·refine Wp.skip (Qb (Qb (Qa (Qj (o2 := 8) rfl rfl rfl (Qm rfl rfl (by rfl) ?_)))))
         refine QJ rfl rfl rfl (WpL.nil (Qh rfl (fun h7 => ?_) (fun h7 => ?_)))
         ·refine Qb ?_
          apply Q3 mixed [⟨93, _, []⟩, ⟨94, _, []⟩, ⟨95, _, []⟩, ⟨96, _, [2]⟩, ⟨8, _, [0]⟩, ⟨9, _, [1, 4, 0]⟩, ⟨10, _, [3, 5, 0, 1, 2, 4]⟩] rfl
          ·refine AllObs.mk ?_ ?_
           ·exact Qc rfl rfl (Qn rfl)
           refine AllObs.mk ?_ ?_
           ·exact Qc rfl rfl (Qn rfl)
           refine AllObs.mk ?_ ?_
           ·exact Qj (o2 := 9) rfl rfl rfl (Qn rfl)
           refine AllObs.mk ?_ ?_
           ·refine Qm rfl rfl (by rfl) ?_
            exact Qn rfl
           refine AllObs.mk ?_ ?_
           ·exact Qd rfl rfl (Qn rfl)
           refine AllObs.mk ?_ ?_
           ·exact Qd rfl rfl (Qn rfl)
           refine AllObs.mk ?_ ?_
           ·exact Qd rfl rfl (Qn rfl)
           exact AllObs.nil
          ·refine Qg ?_
           apply RetQ.mk
           ·exact (Res.three rfl rfl rfl rfl)
           ·(exfalso; omega)
           ·exact Ent.refl _
         ·refine Wp.skip (Qb (Qa (Qc rfl rfl (Qc rfl rfl (Qd rfl rfl (Qd rfl rfl (Qd rfl rfl (WpL.nil (Qg ?_)))))))))
          apply RetQ.mk
          ·exact (Res.three rfl rfl rfl rfl)
          ·(exfalso; omega)
          ·exact Ent.refl _
     ·refine Wp.skip (Qb (Qb (Qa (Qj (o2 := 8) rfl rfl rfl (Qm rfl rfl (by rfl) ?_)))))
      refine QJ rfl rfl rfl (WpL.nil (Qh rfl (fun h6 => ?_) (fun h6 => ?_)))
      ·refine Qb (Qa (Qc rfl rfl (Qc rfl rfl ?_)))
       refine Xl rfl rfl ?_
       refine XT rfl rfl (by rfl) (by rfl) (by rfl) (by rfl) ?_
       intro g11
       refine WpL.ent (Ent.own_nil (T := 92) (s := 1) (Ent.refl _)) ?_
       (refine Yc (Zn at_) rfl rfl rfl (by repeat' constructor) rfl (by rfl) (by rfl) (by rfl) (by rfl) (by omega) (by omega) ?_)
       intro a88 c88
       refine Qc rfl rfl (Qd rfl rfl (Qd rfl rfl (Qd rfl rfl (WpL.nil (Qg ?_)))))
       apply RetQ.mk
       ·exact (Res.three rfl rfl rfl rfl)
       ·(exfalso; omega)
       ·exact Ent.refl _
      ·refine Wp.skip (Qb (Qb (Qa (Qj (o2 := 8) rfl rfl rfl (Qm rfl rfl (by rfl) ?_)))))
       refine QJ rfl rfl rfl (WpL.nil (Qh rfl (fun h7 => ?_) (fun h7 => ?_)))
       ·refine Qb ?_
        apply Q3 mixed [⟨93, _, []⟩, ⟨94, _, []⟩, ⟨95, _, []⟩, ⟨96, _, [2]⟩, ⟨8, _, [0]⟩, ⟨9, _, [1, 4, 0]⟩, ⟨10, _, [3, 5, 0, 1, 2, 4]⟩] rfl
        ·refine AllObs.mk ?_ ?_
         ·exact Qc rfl rfl (Qn rfl)
         refine AllObs.mk ?_ ?_
         ·exact Qc rfl rfl (Qn rfl)
         refine AllObs.mk ?_ ?_
         ·exact Qj (o2 := 9) rfl rfl rfl (Qn rfl)
         refine AllObs.mk ?_ ?_
         ·refine Qm rfl rfl (by rfl) ?_
          exact Qn rfl
         refine AllObs.mk ?_ ?_
         ·exact Qd rfl rfl (Qn rfl)
         refine AllObs.mk ?_ ?_
         ·exact Qd rfl rfl (Qn rfl)
         refine AllObs.mk ?_ ?_
         ·exact Qd rfl rfl (Qn rfl)
         exact AllObs.nil
        ·refine Qg ?_
         apply RetQ.mk
         ·exact (Res.three rfl rfl rfl rfl)
         ·(exfalso; omega)
         ·exact Ent.refl _
       ·refine Wp.skip (Qb (Qa (Qc rfl rfl (Qc rfl rfl (Qd rfl rfl (Qd rfl rfl (Qd rfl rfl (WpL.nil (Qg ?_)))))))))
        apply RetQ.mk
        ·exact (Res.three rfl rfl rfl rfl)
        ·(exfalso; omega)
        ·exact Ent.refl _
    ·have hg2 := of_decide_eq_false hg2
     refine Qu rfl rfl rfl (WpL.nil (QS rfl (Wp.skip (Qb (Qb (Qa (Qj (o2 := 8) rfl rfl rfl (Qm rfl rfl (by rfl) ?_))))))))
     refine QJ rfl rfl rfl (WpL.nil (Qh rfl (fun h6 => ?_) (fun h6 => ?_)))
     ·refine Qb (Qa (Qc rfl rfl (Qc rfl rfl ?_)))
      refine Xl rfl rfl ?_
      refine XT rfl rfl (by rfl) (by rfl) (by rfl) (by rfl) ?_
      intro g12
      refine WpL.ent (Ent.own_nil (T := 92) (s := 1) (Ent.refl _)) ?_
      (refine Yc (Zn at_) rfl rfl rfl (by repeat' constructor) rfl (by rfl) (by rfl) (by rfl) (by rfl) (by omega) (by omega) ?_)
      intro a88 c88
      refine Qc rfl rfl (Qd rfl rfl (Qd rfl rfl (Qd rfl rfl (WpL.nil (Qg ?_)))))
      apply RetQ.mk
      ·exact (Res.three rfl rfl rfl rfl)
      ·(exact ⟨_, _, out ++ [Zn at_], at_, 0, fun l0 l1 l2 imgs => pl_done (hpl l0 l1 l2 imgs) h6, ⟨by omega, by omega⟩, (by (simp only [List.length_append, List.length_cons, List.length_nil]; omega)), ⟨fun _ => ⟨_, out, rfl, hkk⟩, fun q => absurd rfl q⟩, rfl, rfl⟩)
      ·exact Take.ent' (by repeat' constructor)
     ·refine Wp.skip (Qb (Qb (Qa (Qj (o2 := 8) rfl rfl rfl (Qm rfl rfl (by rfl) ?_)))))
      refine QJ rfl rfl rfl (WpL.nil (Qh rfl (fun h7 => ?_) (fun h7 => ?_)))
      ·refine Qb ?_
       apply Q3 mixed [⟨93, _, []⟩, ⟨94, _, []⟩, ⟨95, _, []⟩, ⟨96, _, [2]⟩, ⟨8, _, [0]⟩, ⟨9, _, [1, 4, 0]⟩, ⟨10, _, [3, 5, 0, 1, 2, 4]⟩] rfl
       ·refine AllObs.mk ?_ ?_
        ·exact Qc rfl rfl (Qn rfl)
        refine AllObs.mk ?_ ?_
        ·exact Qc rfl rfl (Qn rfl)
        refine AllObs.mk ?_ ?_
        ·exact Qj (o2 := 9) rfl rfl rfl (Qn rfl)
        refine AllObs.mk ?_ ?_
        ·refine Qm rfl rfl (by rfl) ?_
         exact Qn rfl
        refine AllObs.mk ?_ ?_
        ·exact Qd rfl rfl (Qn rfl)
        refine AllObs.mk ?_ ?_
        ·exact Qd rfl rfl (Qn rfl)
        refine AllObs.mk ?_ ?_
        ·exact Qd rfl rfl (Qn rfl)
        exact AllObs.nil
       ·refine Qg ?_
        apply RetQ.mk
        ·exact (Res.three rfl rfl rfl rfl)
        ·(exact ⟨_, _, out, at_, e, fun l0 l1 l2 imgs => pl_wrong (hpl l0 l1 l2 imgs) h7 (by rcases hla with q | q | q <;> first | exact q.2.1 | (exfalso; omega)) (by rcases hla with q | q | q <;> first | exact q.2.2 | (exfalso; omega)), ⟨by omega, by omega⟩, (by omega), ⟨fun q => absurd q (by (rcases hla with z | z | z <;> first | exact z.2.1 | (exfalso; omega))), fun _ => hkk⟩, rfl, rfl⟩)
        ·exact Take.ent' (by repeat' constructor)
      ·refine Wp.skip (Qb (Qa (Qc rfl rfl (Qc rfl rfl (Qd rfl rfl (Qd rfl rfl (Qd rfl rfl (WpL.nil (Qg ?_)))))))))
       apply RetQ.mk
       ·exact (Res.three rfl rfl rfl rfl)
       ·(exfalso; omega)
       ·exact Ent.refl _
  ·have hg1 := of_decide_eq_false hg1
   refine Qe rfl rfl rfl (by decide) (Qe rfl rfl rfl (by decide) (Qu rfl rfl rfl (WpL.nil (QS rfl (QV (Qb (Qb (Qa (Qj (o2 := 8) rfl rfl rfl (Qm rfl rfl (by rfl) ?_))))))))))
   refine QJ rfl rfl rfl (Qc rfl rfl (QP rfl rfl rfl (fun hg3 => ?_) (fun hg3 => ?_)))
   ·have hg3 := of_decide_eq_true hg3
    refine Qc rfl rfl (Qr rfl rfl rfl (WpL.nil (XH rfl (fun h3 => ?_) (fun h3 => ?_))))
    ·have hl0 : last = 0 := by omega
     have hat2 : bs.length ≤ at_ := by omega
     subst h3
     refine Qb (Qa ?_)
     refine Qz (vs := [_, _, _, _, _, _, _, _, _, _]) rfl rfl rfl (by rfl) ?_
     refine Qk rfl rfl (by repeat' constructor) (rEnd_spec _ _ _ _ _ _ _ _ _ _ _ _ _ _ (by have := hM.1; omega) (by have := hM.1; omega) hq1 hq2 (by have := hM.2.1; omega) hq3 hq4 hqn hqk (by have := hM.2.2.2.1; omega) (by have := hM.2.2.2.1; omega)) ?_
     rintro _ _ ⟨n5, one5, row5, rows5, last5, e5, out5, a1, c1, a2, c2, a3, c3, hs5, rfl, rfl⟩
     simp only [Qv]
     have hw5 : out5.length ≤ 4096 := by have q := endR_w (K := h.K) (H := h.H) (s := ⟨n, one, row, rows, last, e⟩) hq2 (by have := hM.2.1; omega); rw [← hs5] at q; exact q
     have hl5 := endR_last3 (K := h.K) (W := h.W) (H := h.H) (s := (⟨n, one, row, rows, last, e⟩ : RS)) hl0
     have hl5n := endR_last (K := h.K) (W := h.W) (H := h.H) (s := (⟨n, one, row, rows, last, e⟩ : RS))
     have he6 : last5 = 2 → e5 = 6 := fun q => by have := endR_e (K := h.K) (W := h.W) (H := h.H) (s := (⟨n, one, row, rows, last, e⟩ : RS)) hl0; rw [← hs5] at this; exact this q
     rw [← hs5] at hl5 hl5n
     dsimp only at hl5 hl5n
     refine Qc rfl rfl (QL rfl rfl rfl (QL rfl rfl rfl (X6 rfl ?_)))
     intro gT
     refine QE rfl rfl rfl (by rfl) rfl ?_
     refine Qd rfl rfl (WpL.nil (Qb (Qa ?_)))
     refine Qz (vs := [_, _, _, _, _, _, _, _, _, _]) rfl rfl rfl (by rfl) ?_
     refine QE rfl rfl rfl (by rfl) rfl ?_
     refine WpL.nil (Qb (Qb (Qa (Qc rfl rfl (QO rfl rfl (XJ rfl rfl rfl (WpL.nil (Qh rfl (fun h4 => ?_) (fun h4 => ?_)))))))))
     ·have hne : out5 ≠ [] := fun q => by rw [q] at h4; simp at h4
      refine Qa (Qc rfl rfl (Qc rfl rfl (Qc rfl rfl (Qx rfl rfl rfl (Qp (by omega) (by omega)) ?_))))
      refine Xl rfl rfl ?_
      refine XT rfl rfl (by rfl) (by rfl) (by rfl) (by rfl) ?_
      intro g14
      refine Yc ((⟨2, 0, 0, 0, 0, out5⟩, (at_ : Int) + 1)) rfl rfl rfl (by repeat' constructor) rfl (by rfl) (by rfl) (by rfl) (by rfl) (by omega) (by omega) ?_
      intro a70 c70
      refine Qd rfl rfl (WpL.nil (Qb (Qa (Qj (o2 := 8) rfl rfl rfl (Qm rfl rfl (by rfl) ?_)))))
      refine QJ rfl rfl rfl (WpL.nil (Qh rfl (fun h5 => ?_) (fun h5 => ?_)))
      ·refine Qb (Qa (Qc rfl rfl (Qc rfl rfl (Qx rfl rfl rfl (Qp (by omega) (by omega)) ?_))))
       refine Xl rfl rfl ?_
       refine XT rfl rfl (by rfl) (by rfl) (by rfl) (by rfl) ?_
       intro g15
       refine WpL.ent (Ent.own_nil (T := 92) (s := 1) (Ent.refl _)) ?_
       refine Yc (Zn ((at_ : Int) + 1)) rfl rfl rfl (by repeat' constructor) rfl (by rfl) (by rfl) (by rfl) (by rfl) (by (simp only [List.length_append, List.length_cons, List.length_nil]; omega)) (by (simp only [List.length_append, List.length_cons, List.length_nil]; omega)) ?_
       intro a79 c79
       refine Qc rfl rfl (Qd rfl rfl (Qd rfl rfl (Qd rfl rfl (WpL.nil (Qg ?_)))))
       apply RetQ.mk
       ·exact (Res.three rfl rfl rfl rfl)
       ·(exact ⟨_, _, out ++ [(⟨2, 0, 0, 0, 0, out5⟩, (at_ : Int) + 1)] ++ [Zn ((at_ : Int) + 1)], at_, 0, fun l0 l1 l2 imgs => (by have q := pl_end1 (hpl l0 l1 l2 imgs) hl0 hat2 hf.2.1 hs5 h5; rw [atE_some hne] at q; exact q), ⟨by omega, by omega⟩, (by (simp only [List.length_append, List.length_cons, List.length_nil]; omega)), ⟨fun _ => ⟨_, _, rfl, fun x hx => by rcases List.mem_append.1 hx with hx | hx; exact hkk x hx; rw [List.mem_singleton.1 hx]; exact ⟨rfl, hw5⟩⟩, fun q => absurd rfl q⟩, rfl, rfl⟩)
       ·exact Take.ent' (by repeat' constructor)
      ·refine Wp.skip (Qb (Qb (Qa (Qj (o2 := 8) rfl rfl rfl (Qm rfl rfl (by rfl) ?_)))))
       refine QJ rfl rfl rfl (WpL.nil (Qh rfl (fun h6 => ?_) (fun h6 => ?_)))
       ·refine Qb (Qa (Qc rfl rfl (Qc rfl rfl ?_)))
        refine Xl rfl rfl ?_
        refine XT rfl rfl (by rfl) (by rfl) (by rfl) (by rfl) ?_
        intro g16
        refine WpL.ent (Ent.own_nil (T := 92) (s := 1) (Ent.refl _)) ?_
        (refine Yc (Zn at_) rfl rfl rfl (by repeat' constructor) rfl (by rfl) (by rfl) (by rfl) (by rfl) (by omega) (by omega) ?_)
        intro a88 c88
        refine Qc rfl rfl (Qd rfl rfl (Qd rfl rfl (Qd rfl rfl (WpL.nil (Qg ?_)))))
        apply RetQ.mk
        ·exact (Res.three rfl rfl rfl rfl)
        ·(exfalso; omega)
        ·exact Ent.refl _
       ·refine Wp.skip (Qb (Qb (Qa (Qj (o2 := 8) rfl rfl rfl (Qm rfl rfl (by rfl) ?_)))))
        refine QJ rfl rfl rfl (WpL.nil (Qh rfl (fun h7 => ?_) (fun h7 => ?_)))
        ·refine Qb ?_
         apply Q3 mixed [⟨93, _, []⟩, ⟨94, _, []⟩, ⟨95, _, []⟩, ⟨96, _, [2]⟩, ⟨8, _, [0]⟩, ⟨9, _, [1, 4, 0]⟩, ⟨10, _, [3, 5, 0, 1, 2, 4]⟩] rfl
         ·refine AllObs.mk ?_ ?_
          ·exact Qc rfl rfl (Qn rfl)
          refine AllObs.mk ?_ ?_
          ·exact Qc rfl rfl (Qn rfl)
          refine AllObs.mk ?_ ?_
          ·exact Qj (o2 := 9) rfl rfl rfl (Qn rfl)
          refine AllObs.mk ?_ ?_
          ·refine Qm rfl rfl (by rfl) ?_
           exact Qn rfl
          refine AllObs.mk ?_ ?_
          ·exact Qd rfl rfl (Qn rfl)
          refine AllObs.mk ?_ ?_
          ·exact Qd rfl rfl (Qn rfl)
          refine AllObs.mk ?_ ?_
          ·exact Qd rfl rfl (Qn rfl)
          exact AllObs.nil
         ·refine Qg ?_
          apply RetQ.mk
          ·exact (Res.three rfl rfl rfl rfl)
          ·(exact ⟨_, _, out ++ [(⟨2, 0, 0, 0, 0, out5⟩, (at_ : Int) + 1)], at_, e5, fun l0 l1 l2 imgs => (by have q := pl_end2 (hpl l0 l1 l2 imgs) hl0 hat2 hs5 h7 (show e5 ≠ 0 by rw [he6 h7]; decide) (show e5 ≠ 9 by rw [he6 h7]; decide); rw [atE_some hne] at q; exact q), ⟨by omega, by omega⟩, (by (simp only [List.length_append, List.length_cons, List.length_nil]; omega)), ⟨fun q => absurd q (by (rw [he6 h7]; decide)), fun _ => fun x hx => by rcases List.mem_append.1 hx with hx | hx; exact hkk x hx; rw [List.mem_singleton.1 hx]; exact ⟨rfl, hw5⟩⟩, rfl, rfl⟩)
          ·exact Take.ent' (by repeat' constructor)
        ·refine Wp.skip (Qb (Qa (Qc rfl rfl (Qc rfl rfl (Qd rfl rfl (Qd rfl rfl (Qd rfl rfl (WpL.nil (Qg ?_)))))))))
         apply RetQ.mk
         ·exact (Res.three rfl rfl rfl rfl)
         ·(exfalso; omega)
         ·exact Ent.refl _
     ·have he5 : out5 = [] := List.eq_nil_of_length_eq_zero (by omega)
      refine Wp.skip (Qb (Qa (Qj (o2 := 8) rfl rfl rfl (Qm rfl rfl (by rfl) ?_))))
      refine QJ rfl rfl rfl (WpL.nil (Qh rfl (fun h5 => ?_) (fun h5 => ?_)))
      ·refine Qb (Qa (Qc rfl rfl (Qc rfl rfl (Qx rfl rfl rfl (Qp (by omega) (by omega)) ?_))))
       refine Xl rfl rfl ?_
       refine XT rfl rfl (by rfl) (by rfl) (by rfl) (by rfl) ?_
       intro g17
       refine WpL.ent (Ent.own_nil (T := 92) (s := 1) (Ent.refl _)) ?_
       refine Yc (Zn ((at_ : Int) + 1)) rfl rfl rfl (by repeat' constructor) rfl (by rfl) (by rfl) (by rfl) (by rfl) (by omega) (by omega) ?_
       intro a79 c79
       refine Qc rfl rfl (Qd rfl rfl (Qd rfl rfl (Qd rfl rfl (WpL.nil (Qg ?_)))))
       apply RetQ.mk
       ·exact (Res.three rfl rfl rfl rfl)
       ·(exact ⟨_, _, out ++ [Zn ((at_ : Int) + 1)], at_, 0, fun l0 l1 l2 imgs => (by have q := pl_end1 (hpl l0 l1 l2 imgs) hl0 hat2 hf.2.1 hs5 h5; rw [atE_none he5, List.append_nil] at q; exact q), ⟨by omega, by omega⟩, (by (simp only [List.length_append, List.length_cons, List.length_nil]; omega)), ⟨fun _ => ⟨_, out, rfl, hkk⟩, fun q => absurd rfl q⟩, rfl, rfl⟩)
       ·exact Take.ent' (by repeat' constructor)
      ·refine Wp.skip (Qb (Qb (Qa (Qj (o2 := 8) rfl rfl rfl (Qm rfl rfl (by rfl) ?_)))))
       refine QJ rfl rfl rfl (WpL.nil (Qh rfl (fun h6 => ?_) (fun h6 => ?_)))
       ·refine Qb (Qa (Qc rfl rfl (Qc rfl rfl ?_)))
        refine Xl rfl rfl ?_
        refine XT rfl rfl (by rfl) (by rfl) (by rfl) (by rfl) ?_
        intro g18
        refine WpL.ent (Ent.own_nil (T := 92) (s := 1) (Ent.refl _)) ?_
        (refine Yc (Zn at_) rfl rfl rfl (by repeat' constructor) rfl (by rfl) (by rfl) (by rfl) (by rfl) (by omega) (by omega) ?_)
        intro a88 c88
        refine Qc rfl rfl (Qd rfl rfl (Qd rfl rfl (Qd rfl rfl (WpL.nil (Qg ?_)))))
        apply RetQ.mk
        ·exact (Res.three rfl rfl rfl rfl)
        ·(exfalso; omega)
        ·exact Ent.refl _
       ·refine Wp.skip (Qb (Qb (Qa (Qj (o2 := 8) rfl rfl rfl (Qm rfl rfl (by rfl) ?_)))))
        refine QJ rfl rfl rfl (WpL.nil (Qh rfl (fun h7 => ?_) (fun h7 => ?_)))
        ·refine Qb ?_
         apply Q3 mixed [⟨93, _, []⟩, ⟨94, _, []⟩, ⟨95, _, []⟩, ⟨96, _, [2]⟩, ⟨8, _, [0]⟩, ⟨9, _, [1, 4, 0]⟩, ⟨10, _, [3, 5, 0, 1, 2, 4]⟩] rfl
         ·refine AllObs.mk ?_ ?_
          ·exact Qc rfl rfl (Qn rfl)
          refine AllObs.mk ?_ ?_
          ·exact Qc rfl rfl (Qn rfl)
          refine AllObs.mk ?_ ?_
          ·exact Qj (o2 := 9) rfl rfl rfl (Qn rfl)
          refine AllObs.mk ?_ ?_
          ·refine Qm rfl rfl (by rfl) ?_
           exact Qn rfl
          refine AllObs.mk ?_ ?_
          ·exact Qd rfl rfl (Qn rfl)
          refine AllObs.mk ?_ ?_
          ·exact Qd rfl rfl (Qn rfl)
          refine AllObs.mk ?_ ?_
          ·exact Qd rfl rfl (Qn rfl)
          exact AllObs.nil
         ·refine Qg ?_
          apply RetQ.mk
          ·exact (Res.three rfl rfl rfl rfl)
          ·(exact ⟨_, _, out, at_, e5, fun l0 l1 l2 imgs => (by have q := pl_end2 (hpl l0 l1 l2 imgs) hl0 hat2 hs5 h7 (show e5 ≠ 0 by rw [he6 h7]; decide) (show e5 ≠ 9 by rw [he6 h7]; decide); rw [atE_none he5, List.append_nil] at q; exact q), ⟨by omega, by omega⟩, (by omega), ⟨fun q => absurd q (by (rw [he6 h7]; decide)), fun _ => hkk⟩, rfl, rfl⟩)
          ·exact Take.ent' (by repeat' constructor)
        ·refine Wp.skip (Qb (Qa (Qc rfl rfl (Qc rfl rfl (Qd rfl rfl (Qd rfl rfl (Qd rfl rfl (WpL.nil (Qg ?_)))))))))
         apply RetQ.mk
         ·exact (Res.three rfl rfl rfl rfl)
         ·(exfalso; omega)
         ·exact Ent.refl _
    ·refine Wp.skip (Qb (Qb (Qa (Qj (o2 := 8) rfl rfl rfl (Qm rfl rfl (by rfl) ?_)))))
     refine QJ rfl rfl rfl (WpL.nil (Qh rfl (fun h6 => ?_) (fun h6 => ?_)))
     ·refine Qb (Qa (Qc rfl rfl (Qc rfl rfl ?_)))
      refine Xl rfl rfl ?_
      refine XT rfl rfl (by rfl) (by rfl) (by rfl) (by rfl) ?_
      intro g19
      refine WpL.ent (Ent.own_nil (T := 92) (s := 1) (Ent.refl _)) ?_
      (refine Yc (Zn at_) rfl rfl rfl (by repeat' constructor) rfl (by rfl) (by rfl) (by rfl) (by rfl) (by omega) (by omega) ?_)
      intro a88 c88
      refine Qc rfl rfl (Qd rfl rfl (Qd rfl rfl (Qd rfl rfl (WpL.nil (Qg ?_)))))
      apply RetQ.mk
      ·exact (Res.three rfl rfl rfl rfl)
      ·(exfalso; omega)
      ·exact Ent.refl _
     ·refine Wp.skip (Qb (Qb (Qa (Qj (o2 := 8) rfl rfl rfl (Qm rfl rfl (by rfl) ?_)))))
      refine QJ rfl rfl rfl (WpL.nil (Qh rfl (fun h7 => ?_) (fun h7 => ?_)))
      ·refine Qb ?_
       apply Q3 mixed [⟨93, _, []⟩, ⟨94, _, []⟩, ⟨95, _, []⟩, ⟨96, _, [2]⟩, ⟨8, _, [0]⟩, ⟨9, _, [1, 4, 0]⟩, ⟨10, _, [3, 5, 0, 1, 2, 4]⟩] rfl
       ·refine AllObs.mk ?_ ?_
        ·exact Qc rfl rfl (Qn rfl)
        refine AllObs.mk ?_ ?_
        ·exact Qc rfl rfl (Qn rfl)
        refine AllObs.mk ?_ ?_
        ·exact Qj (o2 := 9) rfl rfl rfl (Qn rfl)
        refine AllObs.mk ?_ ?_
        ·refine Qm rfl rfl (by rfl) ?_
         exact Qn rfl
        refine AllObs.mk ?_ ?_
        ·exact Qd rfl rfl (Qn rfl)
        refine AllObs.mk ?_ ?_
        ·exact Qd rfl rfl (Qn rfl)
        refine AllObs.mk ?_ ?_
        ·exact Qd rfl rfl (Qn rfl)
        exact AllObs.nil
       ·refine Qg ?_
        apply RetQ.mk
        ·exact (Res.three rfl rfl rfl rfl)
        ·(exfalso; omega)
        ·exact Ent.refl _
      ·refine Wp.skip (Qb (Qa (Qc rfl rfl (Qc rfl rfl (Qd rfl rfl (Qd rfl rfl (Qd rfl rfl (WpL.nil (Qg ?_)))))))))
       apply RetQ.mk
       ·exact (Res.three rfl rfl rfl rfl)
       ·(subst h3; exact ⟨_, _, out, at_, 9, fun l0 l1 l2 imgs => pl_open (hpl l0 l1 l2 imgs) (show last = 0 by omega) (by omega), ⟨by omega, by omega⟩, (by omega), ⟨fun q => absurd q (by decide), fun _ => hkk⟩, rfl, rfl⟩)
       ·exact Take.ent' (by repeat' constructor)
   ·have hg3 := of_decide_eq_false hg3
    refine Qu rfl rfl rfl (WpL.nil (QS rfl (Wp.skip (Qb (Qb (Qa (Qj (o2 := 8) rfl rfl rfl (Qm rfl rfl (by rfl) ?_))))))))
    refine QJ rfl rfl rfl (WpL.nil (Qh rfl (fun h6 => ?_) (fun h6 => ?_)))
    ·refine Qb (Qa (Qc rfl rfl (Qc rfl rfl ?_)))
     refine Xl rfl rfl ?_
     refine XT rfl rfl (by rfl) (by rfl) (by rfl) (by rfl) ?_
     intro g20
     refine WpL.ent (Ent.own_nil (T := 92) (s := 1) (Ent.refl _)) ?_
     (refine Yc (Zn at_) rfl rfl rfl (by repeat' constructor) rfl (by rfl) (by rfl) (by rfl) (by rfl) (by omega) (by omega) ?_)
     intro a88 c88
     refine Qc rfl rfl (Qd rfl rfl (Qd rfl rfl (Qd rfl rfl (WpL.nil (Qg ?_)))))
     apply RetQ.mk
     ·exact (Res.three rfl rfl rfl rfl)
     ·(exact ⟨_, _, out ++ [Zn at_], at_, 0, fun l0 l1 l2 imgs => pl_done (hpl l0 l1 l2 imgs) h6, ⟨by omega, by omega⟩, (by (simp only [List.length_append, List.length_cons, List.length_nil]; omega)), ⟨fun _ => ⟨_, out, rfl, hkk⟩, fun q => absurd rfl q⟩, rfl, rfl⟩)
     ·exact Take.ent' (by repeat' constructor)
    ·refine Wp.skip (Qb (Qb (Qa (Qj (o2 := 8) rfl rfl rfl (Qm rfl rfl (by rfl) ?_)))))
     refine QJ rfl rfl rfl (WpL.nil (Qh rfl (fun h7 => ?_) (fun h7 => ?_)))
     ·refine Qb ?_
      apply Q3 mixed [⟨93, _, []⟩, ⟨94, _, []⟩, ⟨95, _, []⟩, ⟨96, _, [2]⟩, ⟨8, _, [0]⟩, ⟨9, _, [1, 4, 0]⟩, ⟨10, _, [3, 5, 0, 1, 2, 4]⟩] rfl
      ·refine AllObs.mk ?_ ?_
       ·exact Qc rfl rfl (Qn rfl)
       refine AllObs.mk ?_ ?_
       ·exact Qc rfl rfl (Qn rfl)
       refine AllObs.mk ?_ ?_
       ·exact Qj (o2 := 9) rfl rfl rfl (Qn rfl)
       refine AllObs.mk ?_ ?_
       ·refine Qm rfl rfl (by rfl) ?_
        exact Qn rfl
       refine AllObs.mk ?_ ?_
       ·exact Qd rfl rfl (Qn rfl)
       refine AllObs.mk ?_ ?_
       ·exact Qd rfl rfl (Qn rfl)
       refine AllObs.mk ?_ ?_
       ·exact Qd rfl rfl (Qn rfl)
       exact AllObs.nil
      ·refine Qg ?_
       apply RetQ.mk
       ·exact (Res.three rfl rfl rfl rfl)
       ·(exact ⟨_, _, out, at_, e, fun l0 l1 l2 imgs => pl_wrong (hpl l0 l1 l2 imgs) h7 (by rcases hla with q | q | q <;> first | exact q.2.1 | (exfalso; omega)) (by rcases hla with q | q | q <;> first | exact q.2.2 | (exfalso; omega)), ⟨by omega, by omega⟩, (by omega), ⟨fun q => absurd q (by (rcases hla with z | z | z <;> first | exact z.2.1 | (exfalso; omega))), fun _ => hkk⟩, rfl, rfl⟩)
       ·exact Take.ent' (by repeat' constructor)
     ·refine Wp.skip (Qb (Qa (Qc rfl rfl (Qc rfl rfl (Qd rfl rfl (Qd rfl rfl (Qd rfl rfl (WpL.nil (Qg ?_)))))))))
      apply RetQ.mk
      ·exact (Res.three rfl rfl rfl rfl)
      ·(exfalso; omega)
      ·exact Ent.refl _

end Go.Proofs.YtggamdlpiejbiaaGreat
namespace Go.Proofs.YtggamdlpiejbiaaGreat
open Go.RowKit Go.Shelf
section
variable {P : Program} {n : Cx} {D : List Deferred} {Q : Post} {fr : Fr} {l : List HP} {fB : List HP}
def lowOk (os : List Oper) : Bool := ((os.zipIdx).all fun (o, i) => o.after.toList.all fun e => !Region.binds .any e || Nat.blt e.on i) && (os.all fun o => match o.guard with | some p => Nat.blt p.1 os.length | none => true)
theorem any_tail {os tl : List Oper} {Q Q' : Exit → Act → World → Prop} (ht : tailOk os.length tl = true) (hlo : lowOk os = true) (hq : ∀ e a w, e ≠ .normal → Q' e a w → Q e a w) (hn : ∀ a w, Q' .normal a w → wpListIn (FR n.ro) 0 P (os ++ tl).toArray Q tl a w) :
    ∀ (fuel : Nat) (listed listed' : Array Bool) (a : Act) (w : World), listed.size = (os ++ tl).length → listed'.size = os.length → (∀ i, i < os.length → listed'.getD i false = listed.getD i false) → (∀ i, os.length ≤ i → i < (os ++ tl).length → listed.getD i false = false) →
    wpAnyIn (FR n.ro) 0 P .any os.toArray Q' fuel listed' a w → wpAnyIn (FR n.ro) 0 P .any (os ++ tl).toArray Q (fuel + tl.length) listed a w := by
  simp only [lowOk, Bool.and_eq_true] at hlo
  obtain ⟨hlow, hgd⟩ := hlo
  have hlow' : ∀ (i : Nat) (o : Oper), os[i]? = some o → ∀ e ∈ o.after, Region.binds .any e = true → e.on < i := fun i o ho e he hb => by
    have h1 := List.all_eq_true.1 hlow (o, i) (List.mem_zipIdx_iff_getElem?.2 ho)
    have h2 := List.all_eq_true.1 h1 e (Array.mem_toList_iff.2 he)
    rw [hb] at h2
    exact Eq.mp Nat.blt_eq h2
  have hget : ∀ i, i < os.length → (os ++ tl)[i]? = os[i]? := fun i hi => List.getElem?_append_left hi
  have hrdy : ∀ (listed listed' : Array Bool), listed.size = (os ++ tl).length → listed'.size = os.length → (∀ i, i < os.length → listed'.getD i false = listed.getD i false) → ∀ i, i < os.length → (i ∈ Region.ready .any (os ++ tl).toArray listed ↔ i ∈ Region.ready .any os.toArray listed') := by
    intro listed listed' hs hs' hl i hi
    have hgt : listed'.getD i true = listed.getD i true := by
      have h1 := hl i hi
      have h2 : i < (os ++ tl).length := by simp; omega
      simp only [Array.getD, hs, hs', hi, h2, dite_true] at h1 ⊢
      exact h1
    have hon : ∀ (o : Oper), os[i]? = some o → ∀ e ∈ o.after, Region.binds .any e = true → listed'.getD e.on false = listed.getD e.on false := fun o ho e he hb => hl _ (by have := hlow' i o ho e he hb; omega)
    rw [mem_ready, mem_ready, hgt]
    constructor
    · rintro ⟨h1, o, ho, he⟩
      have ho' : os[i]? = some o := by rw [← hget i hi]; simpa using ho
      exact ⟨h1, o, by simpa using ho', fun e hee hb => by rw [hon o ho' e hee hb]; exact he e hee hb⟩
    · rintro ⟨h1, o, ho, he⟩
      have ho' : os[i]? = some o := by simpa using ho
      exact ⟨h1, o, by have := hget i hi; rw [ho'] at this; simpa using this, fun e hee hb => by rw [← hon o ho' e hee hb]; exact he e hee hb⟩
  -- all listed, or one is ready
  have hprog : ∀ (listed' : Array Bool), listed'.size = os.length → (∀ i, i < os.length → listed'.getD i false = true) ∨ ∃ i, i < os.length ∧ i ∈ Region.ready .any os.toArray listed' := by
    intro listed' hs'
    have key : ∀ k, k ≤ os.length → (∀ i, i < k → listed'.getD i false = true) ∨ ∃ i, i < os.length ∧ i ∈ Region.ready .any os.toArray listed' := by
      intro k
      induction k with
      | zero => intro _; exact .inl fun i hi => by omega
      | succ k ih =>
        intro hk
        rcases ih (by omega) with h | h
        · cases hb : listed'.getD k false with
          | true =>
            refine .inl fun i hi => ?_
            by_cases e : i = k
            · rw [e]; exact hb
            · exact h i (by omega)
          | false =>
            refine .inr ⟨k, by omega, mem_ready.2 ⟨?_, os[k]'(by omega), by simp, fun e he hbd => h _ (hlow' k _ (List.getElem?_eq_getElem (by omega)) e he hbd)⟩⟩
            have hk' : k < listed'.size := by omega
            simp only [Array.getD, hk', dite_true] at hb ⊢
            exact hb
        · exact .inr h
    exact key _ (Nat.le_refl _)
  have hdone : ∀ (fuel : Nat) (listed listed' : Array Bool) (a : Act) (w : World), listed.size = (os ++ tl).length → listed'.size = os.length → (∀ i, i < os.length → listed'.getD i false = listed.getD i false) → (∀ i, os.length ≤ i → i < (os ++ tl).length → listed.getD i false = false) → (∀ i, i < os.length → listed'.getD i false = true) → Q' .normal a w → wpAnyIn (FR n.ro) 0 P .any (os ++ tl).toArray Q (fuel + tl.length) listed a w := by
    intro fuel listed listed' a w hs hs' hl htl hall h
    refine tail_any tl os rfl ht _ listed a w hs (by omega) (fun i hi => ?_) (hn a w h)
    by_cases hi2 : i < os.length
    · rw [← hl i hi2, hall i hi2]; simp [hi2]
    · rw [htl i (by omega) hi]; simp [hi2]
  have hnr : ∀ (listed' : Array Bool), listed'.size = os.length → (∀ i, i < os.length → listed'.getD i false = true) → Region.ready .any os.toArray listed' = [] := by
    intro listed' hs' hall
    refine List.eq_nil_iff_forall_not_mem.2 fun i hi => ?_
    obtain ⟨h1, o, ho', _⟩ := mem_ready.1 hi
    have hlt : i < os.length := by simpa using (Array.getElem?_eq_some_iff.1 ho').1
    have h2 := hall i hlt
    have hlt' : i < listed'.size := by omega
    simp only [Array.getD, hlt', dite_true] at h1 h2
    rw [h2] at h1; cases h1
  -- an operation of the tail is not ready ahead of all others
  have htr : ∀ (listed : Array Bool), listed.size = (os ++ tl).length → (∃ i, i < os.length ∧ listed.getD i false = false) → ∀ i ∈ Region.ready .any (os ++ tl).toArray listed, i < os.length := by
    intro listed hs ⟨j, hj, hjf⟩ i hi
    refine Classical.byContradiction fun hge => ?_
    obtain ⟨_, o, ho, he⟩ := mem_ready.1 hi
    have ho' : (os ++ tl)[i]? = some o := by simpa using ho
    rw [List.getElem?_append_right (by omega)] at ho'
    have h2 := List.all_eq_true.1 ht (o, i) (by
      rw [List.mem_zipIdx_iff_le_and_getElem?_sub]
      exact ⟨by omega, ho'⟩)
    simp only [Bool.and_eq_true] at h2
    have h4 := List.all_eq_true.1 h2.1 j (by simp; omega)
    obtain ⟨e, he', hc⟩ := List.any_eq_true.1 h4
    simp only [Bool.and_eq_true, beq_iff_eq] at hc
    have h5 := he e (Array.mem_toList_iff.1 he') hc.1
    rw [hc.2, hjf] at h5
    cases h5
  intro fuel
  induction fuel with
  | zero =>
    intro listed listed' a w hs hs' hl htl h
    obtain ⟨h1, h2⟩ := h
    rcases hprog listed' hs' with hall | ⟨i, hi, hir⟩
    · exact hdone 0 listed listed' a w hs hs' hl htl hall h2
    · rw [h1] at hir; cases hir
  | succ fuel ih =>
    intro listed listed' a w hs hs' hl htl h
    obtain ⟨h1, h2⟩ := h
    by_cases hall : ∀ i, i < os.length → listed'.getD i false = true
    · exact hdone (fuel + 1) listed listed' a w hs hs' hl htl hall (h1 (hnr listed' hs' hall))
    have hex : ∃ i, i < os.length ∧ listed.getD i false = false := by
      refine Classical.byContradiction fun hc => hall fun i hi => ?_
      rw [hl i hi]
      cases hb : listed.getD i false with
      | true => rfl
      | false => exact absurd ⟨i, hi, hb⟩ hc
    rw [show fuel + 1 + tl.length = (fuel + tl.length) + 1 by omega]
    refine ⟨fun hr => ?_, fun i hi => ?_⟩
    · rcases hprog listed' hs' with h | ⟨i, hi, hir⟩
      · exact absurd h hall
      · have := (hrdy listed listed' hs hs' hl i hi).2 hir
        rw [hr] at this; cases this
    · have hil := htr listed hs hex i hi
      have h3 := h2 i ((hrdy listed listed' hs hs' hl i hil).1 hi)
      have ho : os[i]? = some os[i] := List.getElem?_eq_getElem hil
      unfold wpOpIn at h3 ⊢
      have e1 : os.toArray[i]? = some os[i] := by simp
      have e2 : (os ++ tl).toArray[i]? = some os[i] := by have := hget i hil; rw [ho] at this; simpa using this
      rw [e1] at h3
      rw [e2]
      have hw : Region.wanted os[i] (yielded (os ++ tl).toArray a.tmps) = Region.wanted os[i] (yielded os.toArray a.tmps) := by
        cases hg : os[i].guard with
        | none => simp [Region.wanted, hg]
        | some p =>
          obtain ⟨j, b⟩ := p
          have hj : j < os.length := by
            have := List.all_eq_true.1 hgd os[i] (List.getElem_mem hil)
            rw [hg] at this
            exact Eq.mp Nat.blt_eq this
          have hy : yielded (os ++ tl).toArray a.tmps j = yielded os.toArray a.tmps j := by
            unfold yielded
            have : (os ++ tl).toArray[j]? = os.toArray[j]? := by have := hget j hj; simpa using this
            rw [this]
          simp [Region.wanted, hg, hy]
      have hk : ∀ a w, wpAnyIn (FR n.ro) 0 P .any os.toArray Q' fuel (listed'.setIfInBounds i true) a w → wpAnyIn (FR n.ro) 0 P .any (os ++ tl).toArray Q (fuel + tl.length) (listed.setIfInBounds i true) a w := fun a w hh => by
        have hi3 : i < listed.size := by rw [hs]; simp; omega
        refine ih _ _ a w (by simpa using hs) (by simpa using hs') (fun j hj => ?_) (fun j hj hj2 => ?_) hh
        · rw [YD (by omega), YD hi3]
          by_cases e : i = j
          · subst e; simp
          · rw [if_neg e, if_neg e]; exact hl j hj
        · rw [YD hi3, if_neg (by omega)]
          exact htl j hj hj2
      simp only at h3 ⊢
      rw [hw]
      split
      · rename_i hwt
        rw [if_pos hwt] at h3
        exact op_mono2 hk hq h3
      · rename_i hwt
        rw [if_neg hwt] at h3
        exact ⟨h3.1, hk _ _ h3.2⟩
/-- What is to be shown behind the operations that are drawn: the last ones, in their row. -/
def tlQ (P : Program) (n : Cx) (ops : Array Oper) (tl : List Oper) (Q : Post) : Post
  | .normal, D, fr, l => WpL P n D ops tl Q fr l
  | e, D, fr, l => Q e D fr l
/-- The same, the drawn ones told in π's order. -/
theorem Wp.drawEP {id : Nat} {os : List Oper} (hm : P.follows .mixedOrders = true) (m : Nat) (π ds0 : List Nat) (N : Nat) (ss : List (Nat × Bool)) (ht : tailOk (os.take m).length (os.drop m) = true) (hlo : lowOk (os.take m) = true) (hπ : permOk (os.take m).length π = true) (hok : okG (Ym (os.take m) π) (Ym (os.take m) π).length 0 ss = true) (hds : (Ym (os.take m) π).filterMap (·.dst) = ds0) (hN : (Ym (os.take m) π).length = N)
    (go : GoR P n D (Ym (os.take m) π).toArray (Ym (os.take m) π) (YC ds0 fr) fB N 0 [] 0 (tlQ P n os.toArray (os.drop m) Q) ss 0 [] [] (YC ds0 fr) l) : Wp P n D (.region id os.toArray true) Q fr l := fun a w U hh hs => by
  have hp := permF hπ
  subst hds; subst hN
  have h0 := drawG_go (os := Ym (os.take m) π) _ 0 [] 0 ss hok (fun o ho => by simp at ho) go a w U hh hs
  refine wpIn_region_any hm ?_
  have hos : os = os.take m ++ os.drop m := (List.take_append_drop _ _).symm
  generalize hQ : tlQ P n os.toArray (os.drop m) Q = Q' at h0
  generalize os.take m = o1 at *
  generalize os.drop m = tl at *
  subst hos
  simp only [List.size_toArray, hp.len] at h0
  have h := any_perm hp o1.length (Array.replicate o1.length false) _ a _ (by simp) (by simp) (fun i => by rw [X5, X5]) h0
  have hsz : (o1 ++ tl).toArray.size = o1.length + tl.length := by simp
  rw [hsz]
  refine any_tail ht hlo (Q' := After n Q' U w) (fun e a w hne hq => ?_) (fun a w1 hq => ?_) _ _ _ a _ (by simp) (by simp) (fun i hi => ?_) (fun i _ _ => ?_) h
  · obtain ⟨D', fr', l', q, hh', ho⟩ := hq
    subst hQ
    refine ⟨D', fr', l', ?_, hh', ho⟩
    cases e <;> first | exact absurd rfl hne | exact q
  · obtain ⟨D', fr', l', q, hh', ho⟩ := hq
    subst hQ
    exact WpL.go q hh' ho
  · rw [X5, X5]
  · exact X5
end
end Go.Proofs.YtggamdlpiejbiaaGreat
