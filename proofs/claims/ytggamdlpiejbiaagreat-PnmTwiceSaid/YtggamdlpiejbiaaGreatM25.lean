/- Walks and plain laws, a part of the proof of PnmTwice: every input that the law's guards let in, no condition beside. -/
import Derived.Test.YtggamdlpiejbiaaGreatM24
namespace Go.Proofs.YtggamdlpiejbiaaGreat
open Go.RowKit Go.Shelf

set_option maxRecDepth 4000 in
set_option maxHeartbeats 4000000 in
theorem rStream_spec (A0 : HP) (a0 : Option Addr) (c0 : Nat) (bs : List Int) (hA : RdsL [A0] a0 (XY bs)) (hbs : ∀ x ∈ bs, 0 ≤ x ∧ x ≤ 255) (hc0 : bs.length ≤ c0) (hbl : bs.length ≤ 100000000) (a b d : Int) (fin : Bool) : Fn Tryz.prog 15 #[.slice a0 bs.length c0, .agg #[.int .i64 a, .int .i64 b, .int .i64 d], .bool fin] [A0] (fun v l => ∃ aL cL aI cI s es A, ((s, es) : PS × List (Evt × Int)) = psAll (QG a) (QH b) (QI d) fin bs ∧ A = (if s.e = 0 then 0 else s.told) ∧ v = .agg #[.slice aL es.length cL, .slice aI (X9 es).length cI, .int .i64 s.e, .int .i64 A, .int .i64 s.told] ∧ es.length ≤ 4 * bs.length + 4 ∧ l = [esR aL cL es, imR aI cI (X9 es), A0]) := by
 refine Qo (vs := [.slice a0 bs.length c0, .agg #[.int .i64 a, .int .i64 b, .int .i64 d], .bool fin]) Tryz.func15 rfl Tryz.ntmps15 rfl (Qb (Qa (Xf rfl rfl rfl ?_)))
 intro gB
 refine X6 rfl ?_
 intro gO
 refine WpL.nil (Qb (Qa (X6 rfl ?_)))
 intro gS
 refine WpL.nil (Qb (Qa (Qd rfl rfl (WpL.nil (Wp.block ?_)))))
 refine Wp.loopD (σ := RdY) (fun x => x.at_ ≤ bs.length ∧ (∀ h, x.hd = some h → h.e = 0) ∧ psAll (QG a) (QH b) (QI d) fin bs = XR x.es (YT fin (QF (QG a) (QH b) (QI d) ⟨x.hd, 0, .no, x.at_, (X9 x.es).length, false, 0⟩ (bs.drop x.at_))) ∧ x.es.length ≤ 4 * x.at_ ∧ (X9 x.es).length ≤ x.at_) [8, 9, 10, 11, 12, 13, 14, 15, 16, 17, 18, 19, 20, 21, 22, 23, 24, 25, 26, 27, 28, 29, 30, 31, 32, 33, 34, 35, 36, 37, 38, 39, 40, 41, 42, 43, 44, 45, 46, 47, 48, 49, 50, 51, 52, 53, 54, 55, 56, 57, 58, 59, 60, 61, 62, 63, 64, 65, 66, 67, 68, 69, 70, 71, 72, 73, 74, 75, 76, 77, 78, 79, 80, 81, 82, 83, 84, 85, 86, 87, 88, 89, 90, 91, 92, 93, 94, 95, 96, 97, 98, 99, 100, 101, 102, 103, 104, 105, 106, 107, 108, 109, 110, 111, 112, 113, 114, 115, 116, 117, 118, 119, 120, 121, 122, 123, 124, 125, 126, 127, 128, 129, 130, 131, 132, 133, 134, 135, 136, 137, 138, 139, 140, 141, 142, 143, 144, 145, 146, 147, 148, 149, 150, 151, 152, 153, 154, 155, 156, 157, 158, 159, 160, 161, 162, 163, 164, 165, 166, 167, 168, 169, 170] (fun x => [(8, .int .i64 (x.at_ : Int))]) (fun x => [QD gS [.slice x.aL x.es.length x.cL, .slice x.aI (X9 x.es).length x.cI, .int .i64 0, .int .i64 0, .int .i64 0] 33, QD gO [.slice none 0 0, .slice none 0 0, .int .i64 0, .int .i64 0, .int .i64 0] 33, esR x.aL x.cL x.es, imR x.aI x.cI (X9 x.es), A0, QD gB [.int .i64 a, .int .i64 b, .int .i64 d] 24]) (fun x => bs.length - x.at_) ⟨0, none, [], none, 0, none, 0⟩ ?_ (by repeat (first | exact FrLe.nil | refine FrLe.cons rfl ?_)) ?_ ?_
 ·exact ⟨Nat.zero_le _, (fun _ h => by cases h), rfl, Nat.zero_le _, Nat.zero_le _⟩
 ·refine Ent.trans (m := [QD gS [.slice none 0 0, .slice none 0 0, .int .i64 0, .int .i64 0, .int .i64 0] 33, QD gO [.slice none 0 0, .slice none 0 0, .int .i64 0, .int .i64 0, .int .i64 0] 33, A0, QD gB [.int .i64 a, .int .i64 b, .int .i64 d] 24]) (Take.ent' (by repeat' constructor)) (Ent.cons (Ent.cons (ZX (ZX (Ent.refl _)))))
 ·rintro ⟨at_, hd, es, aL, cL, aI, cI⟩ ⟨hat, hhd, hall, hel, hil⟩
  dsimp only at hat hhd hall hel hil ⊢
  refine Wp.block ?_
  refine Qb (Wp.block ?_)
  refine Wp.loopD (σ := Nat) (fun y => at_ ≤ y ∧ y ≤ bs.length ∧ QF (QG a) (QH b) (QI d) ⟨hd, 0, .no, at_, (X9 es).length, false, 0⟩ (bs.drop at_) = QF (QG a) (QH b) (QI d) ⟨hd, 0, .no, y, (X9 es).length, false, 0⟩ (bs.drop y)) [8, 23, 24, 25, 26, 27, 28, 29, 30, 31, 32, 33, 34, 35, 36, 37, 38, 39] (fun y => [(8, .int .i64 (y : Int))]) (fun y => [QD gS [.slice aL es.length cL, .slice aI (X9 es).length cI, .int .i64 0, .int .i64 0, .int .i64 0] 33, QD gO [.slice none 0 0, .slice none 0 0, .int .i64 0, .int .i64 0, .int .i64 0] 33, esR aL cL es, imR aI cI (X9 es), A0, QD gB [.int .i64 a, .int .i64 b, .int .i64 d] 24]) (fun y => bs.length - y) at_ ?_ (by repeat (first | exact FrLe.nil | refine FrLe.cons rfl ?_)) ?_ ?_
  ·exact ⟨Nat.le_refl _, hat, rfl⟩
  ·exact Ent.refl _
  ·rintro y ⟨hy0, hy1, hrun⟩
   refine Qb (Qb (Qa (Qc rfl rfl (Qc rfl rfl (QO rfl rfl (Xc rfl rfl rfl (Qc rfl rfl (QP rfl rfl rfl (fun hg1 => ?_) (fun hg1 => ?_)))))))))
   ·have hg1 := of_decide_eq_true hg1
    have hlt : y < bs.length := by omega
    have hcb := hbs _ (List.getElem_mem hlt)
    have hdc : bs.drop y = bs[y] :: bs.drop (y + 1) := List.drop_eq_getElem_cons hlt
    refine Qc rfl rfl (Qf rfl rfl (Qc rfl rfl (Qf rfl rfl (Qc rfl rfl (Qf rfl rfl (QO rfl rfl (Qf rfl rfl (Zr rfl rfl rfl (Qp (by omega) (by omega)) ?_))))))))
    refine Qf rfl rfl (s_min2 rfl rfl rfl (Qf rfl rfl (Xs y rfl rfl rfl hA (by exact Take.ent' (by repeat' constructor)) (by omega) (by omega) (by rw [XP]; exact hlt) ?_)))
    refine Qf rfl rfl (Xv rfl rfl hA (by exact Take.ent' (by repeat' constructor)) (Zl bs hlt) ?_)
    refine Qf rfl rfl (Qk rfl rfl (by repeat' constructor) (X2 _) ?_)
    rintro _ _ ⟨rfl, rfl⟩
    simp only [Qv]
    refine Qr rfl rfl rfl (WpL.nil (XH rfl (fun h2 => ?_) (fun h2 => ?_)))
    ·refine Wp.skip (Wp.block ?_)
     refine Qa (Qc rfl rfl (Qx rfl rfl rfl (Qp (by omega) (by omega)) ?_))
     refine Qd rfl rfl (WpL.nil (Qq (Q := fun _ _ _ _ => False) (y + 1) ?_ ?_ (by ((repeat (first | exact Top.refl | refine Top.push rfl ?_)); done)) (by repeat (first | exact FrLe.nil | refine FrLe.cons rfl ?_)) ?_))
     ·exact ⟨by omega, by omega, by rw [hrun, hdc, run_blank _ _ _ h2]; rfl⟩
     ·omega
     ·exact Ent.refl _
    ·refine QV (Qb (Qb (Qa (Qc rfl rfl (Qc rfl rfl (QO rfl rfl (s_ge rfl rfl rfl (WpL.nil (QW (gr := [(0, _), (1, _), (2, _), (4, _), (6, _), (7, _), (8, _), (43, _)]) (FrLe.cons rfl (FrLe.cons rfl (FrLe.cons rfl (FrLe.cons rfl (FrLe.cons rfl (FrLe.cons rfl (FrLe.cons rfl (FrLe.cons rfl FrLe.nil)))))))) ?_)))))))))
     refine Qh rfl (fun h3 => ?_) (fun h3 => ?_)
     ·exfalso; omega
     ·obtain ⟨⟨⟨K, W, H, M⟩, n, e⟩, hPd⟩ : ∃ P, P = hdP (QG a) (QH b) (QI d) (bs.drop y) := ⟨_, rfl⟩
      have hAy : RdsL [A0] (sla a0 y c0 1) (XY (bs.drop y)) := by have q := hA.sla y bs.length c0 1 hc0; rwa [u8s_from] at q
      have hby : QZ (strOfNums (bs.drop y)) = bs.drop y := Zv fun x hx => hbs x (List.mem_of_mem_drop hx)
      have hbl0 : Q8 (bs[y]'hlt) = false := h2
      have hrp := run_parse (lim_o a b d) (imgs := (X9 es).length) (hd := hd) hdc hbl0 hPd
      obtain ⟨⟨hn1, hn2, hne⟩, hr6, hre, hr0⟩ := hrp
      refine Wp.skip (Qb ?_)
      apply YN (fB := []) mixed 10 [(10, true)] rfl rfl (by kernel_rfl)
      apply Y5 [⟨0, 49, _, [], false⟩, ⟨1, 50, _, [], false⟩, ⟨2, 51, _, [0, 1], false⟩, ⟨3, 52, _, [2], false⟩, ⟨4, 53, _, [], false⟩, ⟨5, 54, _, [3, 4], false⟩, ⟨6, 48, _, [5], false⟩, ⟨7, 55, _, [6], false⟩, ⟨8, 56, _, [6], true⟩, ⟨9, 57, _, [6], true⟩] [] [0, 1, 2, 3, 4, 5, 6, 7] [10, 11, 56, 57] (.inl ⟨_, .nil⟩) rfl rfl rfl (by kernel_rfl) rfl rfl rfl rfl
      ·refine AllF.cons rfl rfl rfl rfl ?_ ?_
       ·exact Qc rfl rfl (Qn rfl)
       refine AllF.cons rfl rfl rfl rfl ?_ ?_
       ·exact Qc rfl rfl (Qn rfl)
       refine AllF.cons rfl rfl rfl rfl ?_ ?_
       ·refine s_sll_l (L := y) rfl rfl rfl (by omega) (by omega) ?_
        rw [show bs.length - y = (bs.drop y).length from List.length_drop.symm]
        exact Qn rfl
       refine AllF.cons rfl rfl rfl rfl ?_ ?_
       ·refine s_b2sR rfl Tryz.underlying22 Tryz.underlying5 Tryz.underlying9 rfl hAy (by exact Take.ent' (by repeat' constructor)) rfl ?_
        exact Qn rfl
       refine AllF.cons rfl rfl rfl rfl ?_ ?_
       ·refine Qz (vs := [_, _, _]) rfl rfl rfl (by rfl) ?_
        exact Qn rfl
       refine AllF.cons rfl rfl rfl rfl ?_ ?_
       ·refine Qk rfl rfl (by repeat' constructor) (rParse_det a b d (strOfNums (bs.drop y)) (by rw [size_nums, List.length_drop]; omega)) ?_
        rintro _ _ ⟨rfl, rfl⟩
        simp only [Qv]
        rw [hby, ← hPd]
        dsimp only
        exact WpL.nil ⟨rfl, rfl, rfl, by exact Ent.refl _⟩
       refine AllF.cons rfl rfl rfl rfl ?_ ?_
       ·exact Qc rfl rfl (Qn rfl)
       refine AllF.cons rfl rfl rfl rfl ?_ ?_
       ·exact QL rfl rfl rfl (Qn rfl)
       refine QR rfl rfl rfl rfl ?_ ?_
       ·exact QL rfl rfl rfl (Qn rfl)
       refine QR rfl rfl rfl rfl ?_ ?_
       ·exact QL rfl rfl rfl (Qn rfl)
       exact AllF.nil
      ·intro gH
       refine QE rfl rfl rfl (by rfl) rfl ?_
       refine WpL.nil ⟨rfl, rfl, ?_⟩
       apply GoR.nil [⟨12, 10, _, [0, 1, 2, 3, 4, 5, 6, 7, 8, 10, 11], false⟩, ⟨13, 11, _, [0, 1, 2, 3, 4, 5, 6, 7, 8, 9, 10, 11, 12], false⟩] (.inl ⟨_, .nil⟩) rfl rfl
       ·refine AllF.cons rfl rfl rfl rfl ?_ ?_
        ·exact Qd rfl rfl (Qn rfl)
        refine AllF.cons rfl rfl rfl rfl ?_ ?_
        ·exact Qd rfl rfl (Qn rfl)
        exact AllF.nil
       ·refine QW (gr := [(0, _), (1, _), (2, _), (4, _), (6, _), (7, _), (8, _), (9, _), (10, _), (11, _)]) (FrLe.cons rfl (FrLe.cons rfl (FrLe.cons rfl (FrLe.cons rfl (FrLe.cons rfl (FrLe.cons rfl (FrLe.cons rfl (FrLe.cons rfl (FrLe.cons rfl (FrLe.cons rfl FrLe.nil)))))))))) ?_
        refine Qb (Qb (Qa (Qc rfl rfl (QJ rfl rfl rfl (Qc rfl rfl (QP rfl rfl rfl (fun hg2 => ?_) (fun hg2 => ?_)))))))
        ·have hg2 := of_decide_eq_true hg2
         refine Qc rfl rfl (Qf rfl rfl (ZR rfl rfl (Qr rfl rfl rfl (WpL.nil (QW (gr := [(0, _), (1, _), (2, _), (4, _), (6, _), (7, _), (8, _), (9, _), (10, _), (11, _), (63, _)]) (FrLe.cons rfl (FrLe.cons rfl (FrLe.cons rfl (FrLe.cons rfl (FrLe.cons rfl (FrLe.cons rfl (FrLe.cons rfl (FrLe.cons rfl (FrLe.cons rfl (FrLe.cons rfl (FrLe.cons rfl FrLe.nil))))))))))) ?_)))))
         refine XH rfl (fun h4 => ?_) (fun h4 => ?_)
         ·refine Qb (Qa (Qc rfl rfl (QO rfl rfl (Qj (o2 := 4) rfl rfl rfl (QN rfl rfl rfl (WpL.nil (Qb (Qa ?_))))))))
          refine Qz (vs := [_, _, _, _, _]) rfl rfl rfl (by rfl) ?_
          refine QE rfl rfl rfl (by rfl) rfl ?_
          refine WpL.nil (Qg ?_)
          apply RetQ.mk
          ·exact (Xj rfl rfl (by rfl))
          ·obtain ⟨hn6, h', h9, hq6⟩ := hr6 (by assumption)
           have hfin : fin = false := by revert h4; cases fin <;> decide
           subst hfin
           exact ⟨_, _, _, _, (⟨some h', 1, .no, bs.length, (X9 es).length, false, 0⟩ : PS), es, _, (by rw [hall, hrun]; rw [hq6]; simp [XR, YT]), (by simp), rfl, by omega, rfl⟩
          ·exact Take.ent' (by repeat' constructor)
         ·refine Wp.skip (Qb (Qb (Qa (Qc rfl rfl (Xu rfl rfl rfl (WpL.nil (QW (gr := [(0, _), (1, _), (2, _), (4, _), (6, _), (7, _), (8, _), (9, _), (10, _), (11, _), (69, _)]) (FrLe.cons rfl (FrLe.cons rfl (FrLe.cons rfl (FrLe.cons rfl (FrLe.cons rfl (FrLe.cons rfl (FrLe.cons rfl (FrLe.cons rfl (FrLe.cons rfl (FrLe.cons rfl (FrLe.cons rfl FrLe.nil))))))))))) ?_)))))))
          refine Qh rfl (fun h5 => ?_) (fun h5 => ?_)
          ·refine Qb (Qa (Qc rfl rfl (Qj (o2 := 2) rfl rfl rfl (QN rfl rfl rfl (WpL.nil (Qb (Qa (Qc rfl rfl (Qc rfl rfl (Qx rfl rfl rfl (Qp (by omega) (by omega)) ?_))))))))))
           refine Qj (o2 := 3) rfl rfl rfl (QN rfl rfl rfl (WpL.nil (Qb (Qa (Qj (o2 := 3) rfl rfl rfl (Qm rfl rfl (by rfl) ?_))))))
           refine Qj (o2 := 4) rfl rfl rfl (QN rfl rfl rfl (WpL.nil (Qb (Qa ?_))))
           refine Qz (vs := [_, _, _, _, _]) rfl rfl rfl (by rfl) ?_
           refine QE rfl rfl rfl (by rfl) rfl ?_
           refine WpL.nil (Qg ?_)
           apply RetQ.mk
           ·exact (Xj rfl rfl (by rfl))
           ·obtain ⟨hn6, h', h9, hq6⟩ := hr6 (by assumption)
            have hfin : fin = true := by revert h4; cases fin <;> decide
            subst hfin
            obtain rfl : e = 6 := by assumption
            exact ⟨_, _, _, _, (⟨some h', 1, .no, bs.length, (X9 es).length, true, 6⟩ : PS), es, ((bs.length : Nat) : Int), (by rw [hall, hrun]; rw [hq6]; simp [XR, YT, psEnd_hd h9]), (by simp), by rw [hn6], by omega, rfl⟩
           ·exact Take.ent' (by repeat' constructor)
          ·exfalso; omega
        ·have hg2 := of_decide_eq_false hg2
         refine Qe rfl rfl rfl (by decide) (Qu rfl rfl rfl (WpL.nil (QW (gr := [(0, _), (1, _), (2, _), (4, _), (6, _), (7, _), (8, _), (9, _), (10, _), (11, _), (63, _)]) (FrLe.cons rfl (FrLe.cons rfl (FrLe.cons rfl (FrLe.cons rfl (FrLe.cons rfl (FrLe.cons rfl (FrLe.cons rfl (FrLe.cons rfl (FrLe.cons rfl (FrLe.cons rfl (FrLe.cons rfl FrLe.nil))))))))))) ?_)))
         refine QS rfl (Wp.skip (Qb (Qb (Qa (Qc rfl rfl (Xu rfl rfl rfl (WpL.nil (QW (gr := [(0, _), (1, _), (2, _), (4, _), (6, _), (7, _), (8, _), (9, _), (10, _), (11, _), (69, _)]) (FrLe.cons rfl (FrLe.cons rfl (FrLe.cons rfl (FrLe.cons rfl (FrLe.cons rfl (FrLe.cons rfl (FrLe.cons rfl (FrLe.cons rfl (FrLe.cons rfl (FrLe.cons rfl (FrLe.cons rfl FrLe.nil))))))))))) ?_))))))))
         refine Qh rfl (fun h5 => ?_) (fun h5 => ?_)
         ·refine Qb (Qa (Qc rfl rfl (Qj (o2 := 2) rfl rfl rfl (QN rfl rfl rfl (WpL.nil (Qb (Qa (Qc rfl rfl (Qc rfl rfl (Qx rfl rfl rfl (Qp (by omega) (by omega)) ?_))))))))))
          refine Qj (o2 := 3) rfl rfl rfl (QN rfl rfl rfl (WpL.nil (Qb (Qa (Qj (o2 := 3) rfl rfl rfl (Qm rfl rfl (by rfl) ?_))))))
          refine Qj (o2 := 4) rfl rfl rfl (QN rfl rfl rfl (WpL.nil (Qb (Qa ?_))))
          refine Qz (vs := [_, _, _, _, _]) rfl rfl rfl (by rfl) ?_
          refine QE rfl rfl rfl (by rfl) rfl ?_
          refine WpL.nil (Qg ?_)
          apply RetQ.mk
          ·exact (Xj rfl rfl (by rfl))
          ·obtain ⟨h', hre⟩ := hre h5 (by assumption)
           exact ⟨_, _, _, _, (⟨some h', 1, .no, y + n, (X9 es).length, false, e⟩ : PS), es, _, (by rw [hall, hrun]; rw [hre, psFin_dead (.inr h5)]; simp [XR]), (if_neg h5).symm, rfl, by omega, rfl⟩
          ·exact Take.ent' (by repeat' constructor)
         ·obtain ⟨hF, hFf, rfl, rfl, rfl, rfl, hrF⟩ := hr0 (Classical.not_not.1 h5)
          have hMF := hFf.2.2
          have hMF2 := hMF
          unfold XN at hMF2
          obtain ⟨at1, ha1⟩ := Int.eq_ofNat_of_zero_le (show 0 ≤ (y : Int) + n by omega)
          rw [ha1] at hrF
          rw [Int.toNat_natCast] at hrF
          refine Wp.skip (Qb (Qa (Qc rfl rfl (Qc rfl rfl (Qx rfl rfl rfl (Qp (by omega) (by omega)) ?_)))))
          rw [ha1]
          refine Qd rfl rfl (WpL.nil (QW (gr := [(0, _), (1, _), (2, _), (4, _), (6, _), (7, _), (8, _), (9, _)]) (FrLe.cons rfl (FrLe.cons rfl (FrLe.cons rfl (FrLe.cons rfl (FrLe.cons rfl (FrLe.cons rfl (FrLe.cons rfl (FrLe.cons rfl FrLe.nil)))))))) ?_))
          refine Qb ?_
          apply Xk (fB := [QD gS [.slice aL es.length cL, .slice aI (X9 es).length cI, .int .i64 0, .int .i64 0, .int .i64 0] 33]) mixed [(10, false), (0, false), (1, false)] (by kernel_rfl)
          apply Xd [⟨0, 83, _, [], true⟩, ⟨1, 84, _, [0], true⟩, ⟨2, 85, _, [], false⟩, ⟨3, 86, _, [2], false⟩, ⟨4, 87, _, [], false⟩, ⟨5, 88, _, [4], false⟩, ⟨6, 89, _, [], false⟩, ⟨7, 90, _, [6], false⟩, ⟨8, 91, _, [], false⟩, ⟨9, 92, _, [3, 5, 7, 8], false⟩] [] [2, 3, 4, 5, 6, 7, 8, 9] [94, 95, 83, 84] (.inl ⟨_, by repeat' constructor⟩) rfl rfl rfl (by kernel_rfl) rfl rfl rfl
          ·refine QR rfl rfl rfl rfl ?_ ?_
           ·exact Qj (o2 := 0) rfl rfl rfl (Qn rfl)
           refine QR rfl rfl rfl rfl ?_ ?_
           ·refine Qm rfl rfl (by rfl) ?_
            exact Qn rfl
           refine AllF.cons rfl rfl rfl rfl ?_ ?_
           ·refine Qz (vs := [_, _, _, _]) rfl rfl rfl (by rfl) ?_
            exact Qn rfl
           refine AllF.cons rfl rfl rfl rfl ?_ ?_
           ·refine Qk rfl rfl (by repeat' constructor) (Za _ _ _ _ (by omega) (by omega)) ?_
            rintro _ _ ⟨rfl, rfl⟩
            simp only [Qv]
            exact WpL.nil ⟨rfl, rfl, rfl, by exact Ent.refl _⟩
           refine AllF.cons rfl rfl rfl rfl ?_ ?_
           ·exact Qj (o2 := 1) rfl rfl rfl (Qn rfl)
           refine AllF.cons rfl rfl rfl rfl ?_ ?_
           ·refine Qm rfl rfl (by rfl) ?_
            exact Qn rfl
           refine AllF.cons rfl rfl rfl rfl ?_ ?_
           ·exact Qj (o2 := 2) rfl rfl rfl (Qn rfl)
           refine AllF.cons rfl rfl rfl rfl ?_ ?_
           ·refine Qm rfl rfl (by rfl) ?_
            exact Qn rfl
           refine AllF.cons rfl rfl rfl rfl ?_ ?_
           ·exact Qc rfl rfl (Qn rfl)
           refine AllF.cons rfl rfl rfl rfl ?_ ?_
           ·refine Xl rfl rfl ?_
            exact Qn rfl
           exact AllF.nil
          ·refine XT rfl rfl (by rfl) (by rfl) (by rfl) (by rfl) ?_
           intro g5
           refine WpL.nil ⟨rfl, rfl, ?_⟩
           apply Xd [] [0, 1] [0, 1] [95] (.inl ⟨_, by repeat' constructor⟩) rfl rfl rfl (by kernel_rfl) rfl rfl rfl
           ·exact AllF.nil
           ·refine WpL.ent (Ent.own_nil (T := 92) (s := 1) (Ent.refl _)) ?_
            refine Yc ((YQ hF, (at1 : Int))) rfl rfl rfl (by repeat' constructor) rfl (by rfl) (by rfl) (by rfl) (by rfl) (by omega) (by omega) ?_
            intro aL2 cL2
            refine WpL.nil ⟨rfl, rfl, ?_⟩
            apply Xd [⟨12, 95, _, [0, 1, 2, 3, 4, 5, 6, 7, 8, 9, 10, 11], false⟩] [] [12] [] (.inr rfl) rfl rfl rfl (by kernel_rfl) rfl rfl rfl
            ·refine AllF.cons rfl rfl rfl rfl ?_ ?_
             ·exact Qj (o2 := 0) rfl rfl rfl (Qn rfl)
             exact AllF.nil
            ·refine QN rfl rfl rfl (WpL.nil ⟨rfl, rfl, ?_⟩)
             apply GoR.nil [] (.inr rfl) rfl rfl
             ·exact AllF.nil
             ·refine QW (gr := [(0, _), (1, _), (2, _), (4, _), (6, _), (7, _), (8, _), (9, _)]) (FrLe.cons rfl (FrLe.cons rfl (FrLe.cons rfl (FrLe.cons rfl (FrLe.cons rfl (FrLe.cons rfl (FrLe.cons rfl (FrLe.cons rfl FrLe.nil)))))))) ?_
              refine Qb (Qa (Qd rfl rfl (WpL.nil (Qb (Qa (Qd rfl rfl (WpL.nil (Qb (Qa (Qd rfl rfl (WpL.nil (Qb ?_))))))))))))
              refine Qb (Qa (Qj (o2 := 0) rfl rfl rfl (Qm rfl rfl (by rfl) ?_)))
              refine Xc rfl rfl rfl (WpL.nil (QW (gr := [(0, _), (1, _), (2, _), (4, _), (6, _), (7, _), (8, _), (9, _), (98, _)]) (FrLe.cons rfl (FrLe.cons rfl (FrLe.cons rfl (FrLe.cons rfl (FrLe.cons rfl (FrLe.cons rfl (FrLe.cons rfl (FrLe.cons rfl (FrLe.cons rfl FrLe.nil))))))))) ?_))
              refine Qh rfl (fun h6 => ?_) (fun h6 => ?_)
              ·refine Qb (Qa (Qc rfl rfl (Qc rfl rfl ?_)))
               refine Qz (vs := [_, _, _, _]) rfl rfl rfl (by rfl) ?_
               refine Qc rfl rfl (Qk rfl rfl (by repeat' constructor) (rplain_spec A0 a0 c0 bs hA hbs hc0 (by omega) at1 (by omega) hF hFf (by omega) fin) ?_)
               rintro _ _ ⟨aO, cO, out, to, f, hbo0, hto, hob, hkk, rfl, rfl⟩
               simp only [Qv]
               have hbd : bd0 hF = .pl s0R := if_neg (by omega)
               have hbo := hbo0 (QG a) (QH b) (QI d) (X9 es).length
               rw [← hbd] at hbo
               obtain ⟨toN, rfl⟩ := Int.eq_ofNat_of_zero_le (show 0 ≤ to by omega)
               have hesl : (es ++ [(YQ hF, (at1 : Int))]).length = es.length + 1 := by simp
               refine Qc rfl rfl (QL rfl rfl rfl (QL rfl rfl rfl (QL rfl rfl rfl (Qd rfl rfl (Qd rfl rfl (Qd rfl rfl (WpL.nil (Qb (Qa (Qc rfl rfl (Qd rfl rfl (WpL.nil ?_))))))))))))
               refine Qb (Qa (Qc rfl rfl (Qd rfl rfl (WpL.nil (Qa (Qc rfl rfl (Qd rfl rfl (WpL.nil (QW (gr := [(0, _), (1, _), (2, _), (4, _), (6, _), (7, _), (9, _), (12, _), (13, _), (14, _)]) (FrLe.cons rfl (FrLe.cons rfl (FrLe.cons rfl (FrLe.cons rfl (FrLe.cons rfl (FrLe.cons rfl (FrLe.cons rfl (FrLe.cons rfl (FrLe.cons rfl (FrLe.cons rfl FrLe.nil)))))))))) ?_)))))))))
               refine Qb (Qa (Qj (o2 := 0) rfl rfl rfl (Qm rfl rfl (by rfl) ?_)))
               refine Qc rfl rfl (WpL.ent (Take.ent' (pre := [esR aL2 cL2 (es ++ [(YQ hF, (at1 : Int))]), esR aO cO out, QD gS [.slice aL2 (es ++ [(YQ hF, (at1 : Int))]).length cL2, .slice aI (X9 es).length cI, .int .i64 0, .int .i64 0, .int .i64 0] 33, QD gO [.slice none 0 0, .slice none 0 0, .int .i64 0, .int .i64 0, .int .i64 0] 33, imR aI cI (X9 es), A0, QD gB [.int .i64 a, .int .i64 b, .int .i64 d] 24, QD gH [.int .i64 hF.K, .int .i64 hF.W, .int .i64 hF.H, .int .i64 hF.M] 113]) (by repeat' constructor)) ?_)
               refine WpL.exs Take1.here fun lE => ?_
               refine WpL.pur Take1.here fun hlE => ?_
               refine WpL.exs (Take1.there (Take1.there Take1.here)) fun lO => ?_
               refine WpL.pur Take1.here fun hlO => ?_
               refine s_appo (ys := lO.flatMap (fun r => eaC r.1 r.2.1 r.2.2)) rfl rfl rfl (by repeat' constructor) (by rfl) (by rfl) (eaC_one lO) (by omega) (by omega) ?_
               intro a126 c126
               rw [← List.length_append]
               refine Qj (o2 := 0) rfl rfl rfl (QN rfl rfl rfl (WpL.nil (QW (gr := [(0, _), (1, _), (2, _), (4, _), (6, _), (7, _), (9, _), (12, _), (13, _), (14, _)]) (FrLe.cons rfl (FrLe.cons rfl (FrLe.cons rfl (FrLe.cons rfl (FrLe.cons rfl (FrLe.cons rfl (FrLe.cons rfl (FrLe.cons rfl (FrLe.cons rfl (FrLe.cons rfl FrLe.nil)))))))))) ?_)))
               refine Qb (Qb (Qa (Qc rfl rfl (Xu rfl rfl rfl (WpL.nil (QW (gr := [(0, _), (1, _), (2, _), (4, _), (6, _), (7, _), (9, _), (12, _), (13, _), (14, _), (129, _)]) (FrLe.cons rfl (FrLe.cons rfl (FrLe.cons rfl (FrLe.cons rfl (FrLe.cons rfl (FrLe.cons rfl (FrLe.cons rfl (FrLe.cons rfl (FrLe.cons rfl (FrLe.cons rfl (FrLe.cons rfl FrLe.nil))))))))))) ?_))))))
               refine Qh rfl (fun h7 => ?_) (fun h7 => ?_)
               ·refine Qb (Qa (Qc rfl rfl (Qj (o2 := 4) rfl rfl rfl (QN rfl rfl rfl (WpL.nil (Qb (Qb (Qa (Qc rfl rfl (Xu rfl rfl rfl (WpL.nil (Qh rfl (fun h8 => ?_) (fun h8 => ?_)))))))))))))
                ·refine Qb (Qa (Qc rfl rfl (Qj (o2 := 2) rfl rfl rfl (QN rfl rfl rfl (WpL.nil (Qa (Qc rfl rfl (Qj (o2 := 3) rfl rfl rfl (QN rfl rfl rfl (WpL.nil (Qb (Qa ?_))))))))))))
                 refine Qz (vs := [_, _, _, _, _]) rfl rfl rfl (by rfl) ?_
                 refine QE rfl rfl rfl (by rfl) rfl ?_
                 refine WpL.nil (Qg ?_)
                 apply RetQ.mk
                 ·exact (Xj rfl rfl (by rfl))
                 ·obtain ⟨s', hs', hse, hst, hsi⟩ := hbo.2 h7
                  rw [Int.toNat_natCast] at hs'
                  exact ⟨_, _, _, _, s', ((es ++ [(YQ hF, (at1 : Int))]) ++ out), (toN : Int), (by rw [hall, hrun, hrF, YG, hs']; simp [XR]), (by rw [hse, if_neg h8, if_neg h7]; exact hst.symm), (by rw [Y0 (fun x hx => (hkk.2 h7 x hx).1), hse, hst, if_neg h8]), (by simp only [List.length_append, List.length_cons, List.length_nil]; omega), rfl⟩
                 ·rw [Y0 (fun x hx => (hkk.2 h7 x hx).1)]
                  exact (Take.ent' (by repeat' constructor)).trans (Z2 hlE hlO rfl)
                ·refine Wp.skip (Qb (Qa ?_))
                 refine Qz (vs := [_, _, _, _, _]) rfl rfl rfl (by rfl) ?_
                 refine QE rfl rfl rfl (by rfl) rfl ?_
                 refine WpL.nil (Qg ?_)
                 apply RetQ.mk
                 ·exact (Xj rfl rfl (by rfl))
                 ·obtain ⟨s', hs', hse, hst, hsi⟩ := hbo.2 h7
                  rw [Int.toNat_natCast] at hs'
                  exact ⟨_, _, _, _, s', ((es ++ [(YQ hF, (at1 : Int))]) ++ out), 0, (by rw [hall, hrun, hrF, YG, hs']; simp [XR]), (by rw [hse, if_pos (Classical.not_not.1 h8)]; rfl), (by rw [Y0 (fun x hx => (hkk.2 h7 x hx).1), hse, hst, if_pos (Classical.not_not.1 h8)]), (by simp only [List.length_append, List.length_cons, List.length_nil]; omega), rfl⟩
                 ·rw [Y0 (fun x hx => (hkk.2 h7 x hx).1)]
                  exact (Take.ent' (by repeat' constructor)).trans (Z2 hlE hlO rfl)
               ·refine Wp.skip (Qb ?_)
                apply YN (fB := []) mixed 8 [(8, true)] rfl rfl (by kernel_rfl)
                apply Y5 [⟨0, 139, _, [], false⟩, ⟨1, 140, _, [0], false⟩, ⟨2, 141, _, [], false⟩, ⟨3, 142, _, [2], false⟩, ⟨4, 143, _, [], false⟩, ⟨5, 144, _, [4], false⟩, ⟨6, 145, _, [3, 5], false⟩, ⟨7, 146, _, [1, 6], false⟩] [] [0, 1, 2, 3, 4, 5, 6, 7] [] (.inr rfl) rfl rfl rfl (by kernel_rfl) rfl rfl rfl rfl
                ·refine AllF.cons rfl rfl rfl rfl ?_ ?_
                 ·refine Qz (vs := [_, _, _, _]) rfl rfl rfl (by rfl) ?_
                  exact Qn rfl
                 refine AllF.cons rfl rfl rfl rfl ?_ ?_
                 ·refine Qk rfl rfl (by repeat' constructor) (Za _ _ _ _ (by omega) (by omega)) ?_
                  rintro _ _ ⟨rfl, rfl⟩
                  simp only [Qv]
                  exact WpL.nil ⟨rfl, rfl, rfl, by exact Ent.refl _⟩
                 refine AllF.cons rfl rfl rfl rfl ?_ ?_
                 ·exact Qj (o2 := 1) rfl rfl rfl (Qn rfl)
                 refine AllF.cons rfl rfl rfl rfl ?_ ?_
                 ·refine Qm rfl rfl (by rfl) ?_
                  exact Qn rfl
                 refine AllF.cons rfl rfl rfl rfl ?_ ?_
                 ·exact Qj (o2 := 2) rfl rfl rfl (Qn rfl)
                 refine AllF.cons rfl rfl rfl rfl ?_ ?_
                 ·refine Qm rfl rfl (by rfl) ?_
                  exact Qn rfl
                 refine AllF.cons rfl rfl rfl rfl ?_ ?_
                 ·refine Xl rfl rfl ?_
                  exact Qn rfl
                 refine AllF.cons rfl rfl rfl rfl ?_ ?_
                 ·refine Xl rfl rfl ?_
                  exact Qn rfl
                 exact AllF.nil
                ·intro gM
                 refine QE rfl rfl rfl (by rfl) rfl ?_
                 refine WpL.nil ⟨rfl, rfl, ?_⟩
                 apply GoR.nil [] (.inr rfl) rfl rfl
                 ·exact AllF.nil
                 ·refine QW (gr := [(0, _), (1, _), (2, _), (4, _), (6, _), (7, _), (12, _), (13, _), (21, _)]) (FrLe.cons rfl (FrLe.cons rfl (FrLe.cons rfl (FrLe.cons rfl (FrLe.cons rfl (FrLe.cons rfl (FrLe.cons rfl (FrLe.cons rfl (FrLe.cons rfl FrLe.nil))))))))) ?_
                  refine Qb (Qb (Qa (Qd rfl rfl (WpL.nil (Wp.block ?_)))))
                  have hlOl : lO.length = out.length := by rw [← hlO, List.length_map]
                  have hrl : ∀ z ∈ out, z.1.row.length ≤ 4096 := by
                   obtain ⟨t, rows, ho, hk⟩ := hkk.1 (Classical.not_not.1 h7)
                   intro z hz
                   rw [ho] at hz
                   rcases List.mem_append.1 hz with hz | hz
                   ·exact (hk z hz).2
                   ·rw [List.mem_singleton.1 hz]; simp [Zn]
                  refine Wp.ownSomeN (T := 53) (s := 7) (a := aO) (by repeat' constructor) (fun hgo => ?_)
                  refine Wp.loopD (σ := RdZ) (fun x => x.i ≤ out.length ∧ x.px = (out.take x.i).flatMap (fun z => z.1.row) ∧ x.px.length ≤ 4096 * x.i) [22, 147, 148, 149, 150, 151, 152, 153, 154, 155, 156, 157, 158, 159, 160, 161, 162, 163] (fun x => [(22, .int .i64 (x.i : Int))]) (fun x => [QD gM [.int .i64 (QT hF.K), .int .i64 hF.M, .int .i64 hF.W, .int .i64 hF.H, .slice x.aM x.px.length x.cM] 71, own 92 1 x.aM x.cM x.px.length (XG x.px), own 53 7 a126 c126 ((es ++ [(YQ hF, (at1 : Int))]) ++ out).length (lE.flatMap (fun r => eaC r.1 r.2.1 r.2.2) ++ lO.flatMap (fun r => eaC r.1 r.2.1 r.2.2)), own 53 7 aO cO out.length (lO.flatMap (fun r => eaC r.1 r.2.1 r.2.2)), Zc (lE.map (fun r => own 92 1 r.2.1 r.2.2 (Zk r.1).length (XG (Zk r.1)))), Zc (lO.map (fun r => own 92 1 r.2.1 r.2.2 (Zk r.1).length (XG (Zk r.1)))), QD gS [.slice a126 ((es ++ [(YQ hF, (at1 : Int))]) ++ out).length c126, .slice aI (X9 es).length cI, .int .i64 0, .int .i64 0, .int .i64 0] 33, QD gO [.slice none 0 0, .slice none 0 0, .int .i64 0, .int .i64 0, .int .i64 0] 33, imR aI cI (X9 es), A0, QD gB [.int .i64 a, .int .i64 b, .int .i64 d] 24]) (fun x => out.length - x.i) ⟨0, [], none, 0⟩ ?_ (by repeat (first | exact FrLe.nil | refine FrLe.cons rfl ?_)) ?_ ?_
                  ·exact ⟨Nat.zero_le _, by simp, by simp⟩
                  ·refine Ent.trans (m := [QD gM [.int .i64 (QT hF.K), .int .i64 hF.M, .int .i64 hF.W, .int .i64 hF.H, .slice none 0 0] 71, own 53 7 a126 c126 ((es ++ [(YQ hF, (at1 : Int))]) ++ out).length (lE.flatMap (fun r => eaC r.1 r.2.1 r.2.2) ++ lO.flatMap (fun r => eaC r.1 r.2.1 r.2.2)), own 53 7 aO cO out.length (lO.flatMap (fun r => eaC r.1 r.2.1 r.2.2)), Zc (lE.map (fun r => own 92 1 r.2.1 r.2.2 (Zk r.1).length (XG (Zk r.1)))), Zc (lO.map (fun r => own 92 1 r.2.1 r.2.2 (Zk r.1).length (XG (Zk r.1)))), QD gS [.slice a126 ((es ++ [(YQ hF, (at1 : Int))]) ++ out).length c126, .slice aI (X9 es).length cI, .int .i64 0, .int .i64 0, .int .i64 0] 33, QD gO [.slice none 0 0, .slice none 0 0, .int .i64 0, .int .i64 0, .int .i64 0] 33, imR aI cI (X9 es), A0, QD gB [.int .i64 a, .int .i64 b, .int .i64 d] 24]) (Take.ent' (by repeat' constructor)) (Ent.cons (Ent.own_nil (Ent.refl _)))
                  ·rintro ⟨i, px, aM, cM⟩ ⟨hi0, hpx, hpl⟩
                   dsimp only at hi0 hpx hpl ⊢
                   refine Qb (Qb (Qa (Qc rfl rfl (Qc rfl rfl (QO rfl rfl (Xc rfl rfl rfl (WpL.nil (Qh rfl (fun h10 => ?_) (fun h10 => ?_)))))))))
                   ·have hio : i < out.length := by omega
                    have hil : i < lO.length := by omega
                    obtain ⟨gE, hgE⟩ := hgo (fun q => by have := congrArg List.length q; rw [eaC_len] at this; simp only [List.length_nil] at this; omega)
                    subst hgE
                    have hzi : Zk (lO[i]'hil).1 = out[i].1.row := by have q : (lO.map (·.1))[i]'(by simpa using hil) = out[i] := (by simp only [hlO]); rw [List.getElem_map] at q; unfold Zk; rw [q]
                    have hzl : (Zk (lO[i]'hil).1).length ≤ 4096 := by rw [hzi]; exact hrl _ (List.getElem_mem hio)
                    have hcell : (lO.flatMap (fun r => eaC r.1 r.2.1 r.2.2))[0 + i * 7 + 5]? = some (.slice (lO[i]'hil).2.1 (Zk (lO[i]'hil).1).length (lO[i]'hil).2.2) := by have q := flat_cell (s := 7) (f := fun r => eaC r.1 r.2.1 r.2.2) (fun _ => rfl) lO i 5 hil (by decide); rw [Nat.zero_add, q]; rfl
                    refine Wp.skip (Qb (Wp.block ?_))
                    apply Xk (fB := []) mixed [(8, false), (2, false)] (by kernel_rfl)
                    apply Xd [⟨0, 153, _, [], false⟩, ⟨1, 154, _, [0], false⟩, ⟨2, 155, _, [1], false⟩, ⟨3, 156, _, [], false⟩, ⟨4, 157, _, [], false⟩, ⟨5, 158, _, [3, 4], false⟩, ⟨6, 159, _, [5], false⟩, ⟨7, 160, _, [6], false⟩] [] [0, 1, 2, 3, 4, 5, 6, 7] [162, 163] (.inr rfl) rfl rfl rfl (by kernel_rfl) rfl rfl rfl
                    ·refine AllF.cons rfl rfl rfl rfl ?_ ?_
                     ·exact Qj (o2 := 2) rfl rfl rfl (Qn rfl)
                     refine AllF.cons rfl rfl rfl rfl ?_ ?_
                     ·exact Qj (o2 := 4) rfl rfl rfl (Qn rfl)
                     refine AllF.cons rfl rfl rfl rfl ?_ ?_
                     ·refine Qm rfl rfl (by rfl) ?_
                      exact Qn rfl
                     refine AllF.cons rfl rfl rfl rfl ?_ ?_
                     ·exact Qc rfl rfl (Qn rfl)
                     refine AllF.cons rfl rfl rfl rfl ?_ ?_
                     ·exact Qc rfl rfl (Qn rfl)
                     refine AllF.cons rfl rfl rfl rfl ?_ ?_
                     ·refine s_ixA (k := i) rfl rfl rfl (by omega) ?_
                      exact Qn rfl
                     refine AllF.cons rfl rfl rfl rfl ?_ ?_
                     ·exact Qj (o2 := 0 + i * 7 + 5) rfl rfl rfl (Qn rfl)
                     refine AllF.cons rfl rfl rfl rfl ?_ ?_
                     ·refine s_ldR (v := .slice (lO[i]'hil).2.1 (Zk (lO[i]'hil).1).length (lO[i]'hil).2.2) rfl rfl (Q4 (T := 53) (s := 7) (c := cO) (m := out.length)) (by exact Take.ent' (by repeat' constructor)) hcell ?_
                      exact Qn rfl
                     exact AllF.nil
                    ·refine s_appR (m2 := (Zk (lO[i]'hil).1).length) rfl rfl rfl (by repeat' constructor) (rc_row (Tx := 92) (row := Zk) (List.getElem_mem hil)) (by exact Take.ent' (by repeat' constructor)) (by rw [Zf, Nat.mul_one]) (by rfl) (by rfl) (pxs_one _) (by omega) (by omega) ?_
                     intro a161 c161
                     rw [pxs_app, ← List.length_append]
                     refine WpL.nil ⟨rfl, rfl, ?_⟩
                     apply Xd [⟨9, 162, _, [0, 1, 2, 3, 4, 5, 6, 7, 8], false⟩, ⟨10, 163, _, [0, 1, 2, 3, 4, 5, 6, 7, 8, 9], false⟩] [] [9, 10] [] (.inr rfl) rfl rfl rfl (by kernel_rfl) rfl rfl rfl
                     ·refine AllF.cons rfl rfl rfl rfl ?_ ?_
                      ·exact Qj (o2 := 2) rfl rfl rfl (Qn rfl)
                      refine AllF.cons rfl rfl rfl rfl ?_ ?_
                      ·exact Qj (o2 := 4) rfl rfl rfl (Qn rfl)
                      exact AllF.nil
                     ·refine QN rfl rfl rfl (WpL.nil ⟨rfl, rfl, ?_⟩)
                      apply GoR.nil [] (.inr rfl) rfl rfl
                      ·exact AllF.nil
                      ·refine Qa (Qc rfl rfl (Qx rfl rfl rfl (Qp (by omega) (by omega)) ?_))
                       refine Qd rfl rfl (WpL.nil (Qq (⟨i + 1, px ++ Zk (lO[i]'hil).1, a161, c161⟩ : RdZ) ?_ ?_ (by ((repeat (first | exact Top.refl | refine Top.push rfl ?_)); done)) (by repeat (first | exact FrLe.nil | refine FrLe.cons rfl ?_)) ?_))
                       ·exact ⟨by simp only; omega, by simp only; rw [hpx, hzi]; exact flat_take hio, by simp only [List.length_append]; omega⟩
                       ·simp only; omega
                       ·exact Take.ent' (by repeat' constructor)
                   ·refine QV (Qb (Qa (Qj (o2 := 1) rfl rfl rfl (Qm rfl rfl (by rfl) ?_))))
                    refine Qz (vs := [_, _, _, _, _]) rfl rfl rfl (by rfl) ?_
                    refine XT rfl rfl (by rfl) (by rfl) (by rfl) (by rfl) ?_
                    intro g7
                    obtain ⟨tt, rows, hout, hrows⟩ := hkk.1 (Classical.not_not.1 h7)
                    have himb := imsO_body (h := hF) (es := es) (n := (at1 : Int)) hout (fun x hx => (hrows x hx).1)
                    have hpxe : px = (imOf hF out).px := by rw [hpx, List.take_of_length_le (by omega)]; rfl
                    subst hpxe
                    refine Yc (imOf hF out) rfl rfl rfl (by repeat' constructor) rfl (by rfl) (by rfl) (by rfl) (by rfl) (by omega) (by omega) ?_
                    intro a168 c168
                    rw [← himb]
                    refine Qj (o2 := 1) rfl rfl rfl (QN rfl rfl rfl (WpL.nil (QW (gr := [(0, _), (1, _), (2, _), (4, _), (6, _), (7, _), (13, _)]) (FrLe.cons rfl (FrLe.cons rfl (FrLe.cons rfl (FrLe.cons rfl (FrLe.cons rfl (FrLe.cons rfl (FrLe.cons rfl FrLe.nil))))))) ?_)))
                    refine Qa (Qc rfl rfl (Qd rfl rfl (WpL.nil (Qq (Q := fun _ _ _ _ => False) (⟨toN, some hF, (es ++ [(YQ hF, (at1 : Int))]) ++ out, a126, c126, a168, c168⟩ : RdY) ?_ ?_ (by exact Top.le (by repeat (first | exact FrLe.nil | refine FrLe.cons rfl ?_))) (by repeat (first | exact FrLe.nil | refine FrLe.cons rfl ?_)) ?_))))
                    ·refine ⟨by simp only; omega, (fun q hq => by cases hq; exact hFf.2.1), ?_, by simp only [List.length_append, List.length_cons, List.length_nil]; omega, by simp only; rw [himb]; simp only [List.length_append, List.length_cons, List.length_nil]; omega⟩
                     simp only
                     have hb0 := hbo.1 (Classical.not_not.1 h7)
                     rw [Int.toNat_natCast, Int.toNat_natCast] at hb0
                     rw [hall, hrun, hrF, YG, hb0, Ys, Ys, himb]
                     simp only [List.length_append, List.length_cons, List.length_nil, List.append_assoc]
                     rfl
                    ·simp only; omega
                    ·exact (Take.ent' (by repeat' constructor)).trans (Ent.cons (Ent.cons (Z2 hlE hlO rfl)))
              ·refine Qb (Qa (Qc rfl rfl (Qc rfl rfl ?_)))
               refine Qz (vs := [_, _, _, _]) rfl rfl rfl (by rfl) ?_
               refine Qc rfl rfl (Qk rfl rfl (by repeat' constructor) (rraw_spec A0 a0 c0 bs hA hbs hc0 (by omega) at1 (by omega) hF hFf (by omega) fin) ?_)
               rintro _ _ ⟨aO, cO, out, to, f, hbo0, hto, hob, hkk, rfl, rfl⟩
               simp only [Qv]
               have hbd : bd0 hF = .rw (rw0 hF) := if_pos (by omega)
               have hbo := hbo0 (QG a) (QH b) (QI d) (X9 es).length
               rw [← hbd] at hbo
               obtain ⟨toN, rfl⟩ := Int.eq_ofNat_of_zero_le (show 0 ≤ to by omega)
               have hesl : (es ++ [(YQ hF, (at1 : Int))]).length = es.length + 1 := by simp
               refine Qc rfl rfl (QL rfl rfl rfl (QL rfl rfl rfl (QL rfl rfl rfl (Qd rfl rfl (Qd rfl rfl (Qd rfl rfl (WpL.nil (Qb (Qa (Qc rfl rfl (Qd rfl rfl (WpL.nil ?_))))))))))))
               refine Qb (Qa (Qc rfl rfl (Qd rfl rfl (WpL.nil (Qa (Qc rfl rfl (Qd rfl rfl (WpL.nil (QW (gr := [(0, _), (1, _), (2, _), (4, _), (6, _), (7, _), (9, _), (12, _), (13, _), (14, _)]) (FrLe.cons rfl (FrLe.cons rfl (FrLe.cons rfl (FrLe.cons rfl (FrLe.cons rfl (FrLe.cons rfl (FrLe.cons rfl (FrLe.cons rfl (FrLe.cons rfl (FrLe.cons rfl FrLe.nil)))))))))) ?_)))))))))
               refine Qb (Qa (Qj (o2 := 0) rfl rfl rfl (Qm rfl rfl (by rfl) ?_)))
               refine Qc rfl rfl (WpL.ent (Take.ent' (pre := [esR aL2 cL2 (es ++ [(YQ hF, (at1 : Int))]), esR aO cO out, QD gS [.slice aL2 (es ++ [(YQ hF, (at1 : Int))]).length cL2, .slice aI (X9 es).length cI, .int .i64 0, .int .i64 0, .int .i64 0] 33, QD gO [.slice none 0 0, .slice none 0 0, .int .i64 0, .int .i64 0, .int .i64 0] 33, imR aI cI (X9 es), A0, QD gB [.int .i64 a, .int .i64 b, .int .i64 d] 24, QD gH [.int .i64 hF.K, .int .i64 hF.W, .int .i64 hF.H, .int .i64 hF.M] 113]) (by repeat' constructor)) ?_)
               refine WpL.exs Take1.here fun lE => ?_
               refine WpL.pur Take1.here fun hlE => ?_
               refine WpL.exs (Take1.there (Take1.there Take1.here)) fun lO => ?_
               refine WpL.pur Take1.here fun hlO => ?_
               refine s_appo (ys := lO.flatMap (fun r => eaC r.1 r.2.1 r.2.2)) rfl rfl rfl (by repeat' constructor) (by rfl) (by rfl) (eaC_one lO) (by omega) (by omega) ?_
               intro a126 c126
               rw [← List.length_append]
               refine Qj (o2 := 0) rfl rfl rfl (QN rfl rfl rfl (WpL.nil (QW (gr := [(0, _), (1, _), (2, _), (4, _), (6, _), (7, _), (9, _), (12, _), (13, _), (14, _)]) (FrLe.cons rfl (FrLe.cons rfl (FrLe.cons rfl (FrLe.cons rfl (FrLe.cons rfl (FrLe.cons rfl (FrLe.cons rfl (FrLe.cons rfl (FrLe.cons rfl (FrLe.cons rfl FrLe.nil)))))))))) ?_)))
               refine Qb (Qb (Qa (Qc rfl rfl (Xu rfl rfl rfl (WpL.nil (QW (gr := [(0, _), (1, _), (2, _), (4, _), (6, _), (7, _), (9, _), (12, _), (13, _), (14, _), (129, _)]) (FrLe.cons rfl (FrLe.cons rfl (FrLe.cons rfl (FrLe.cons rfl (FrLe.cons rfl (FrLe.cons rfl (FrLe.cons rfl (FrLe.cons rfl (FrLe.cons rfl (FrLe.cons rfl (FrLe.cons rfl FrLe.nil))))))))))) ?_))))))
               refine Qh rfl (fun h7 => ?_) (fun h7 => ?_)
               ·refine Qb (Qa (Qc rfl rfl (Qj (o2 := 4) rfl rfl rfl (QN rfl rfl rfl (WpL.nil (Qb (Qb (Qa (Qc rfl rfl (Xu rfl rfl rfl (WpL.nil (Qh rfl (fun h8 => ?_) (fun h8 => ?_)))))))))))))
                ·refine Qb (Qa (Qc rfl rfl (Qj (o2 := 2) rfl rfl rfl (QN rfl rfl rfl (WpL.nil (Qa (Qc rfl rfl (Qj (o2 := 3) rfl rfl rfl (QN rfl rfl rfl (WpL.nil (Qb (Qa ?_))))))))))))
                 refine Qz (vs := [_, _, _, _, _]) rfl rfl rfl (by rfl) ?_
                 refine QE rfl rfl rfl (by rfl) rfl ?_
                 refine WpL.nil (Qg ?_)
                 apply RetQ.mk
                 ·exact (Xj rfl rfl (by rfl))
                 ·obtain ⟨s', hs', hse, hst, hsi⟩ := hbo.2 h7
                  rw [Int.toNat_natCast] at hs'
                  exact ⟨_, _, _, _, s', ((es ++ [(YQ hF, (at1 : Int))]) ++ out), (toN : Int), (by rw [hall, hrun, hrF, YG, hs']; simp [XR]), (by rw [hse, if_neg h8, if_neg h7]; exact hst.symm), (by rw [Y0 (fun x hx => (hkk.2 h7 x hx).1), hse, hst, if_neg h8]), (by simp only [List.length_append, List.length_cons, List.length_nil]; omega), rfl⟩
                 ·rw [Y0 (fun x hx => (hkk.2 h7 x hx).1)]
                  exact (Take.ent' (by repeat' constructor)).trans (Z2 hlE hlO rfl)
                ·refine Wp.skip (Qb (Qa ?_))
                 refine Qz (vs := [_, _, _, _, _]) rfl rfl rfl (by rfl) ?_
                 refine QE rfl rfl rfl (by rfl) rfl ?_
                 refine WpL.nil (Qg ?_)
                 apply RetQ.mk
                 ·exact (Xj rfl rfl (by rfl))
                 ·obtain ⟨s', hs', hse, hst, hsi⟩ := hbo.2 h7
                  rw [Int.toNat_natCast] at hs'
                  exact ⟨_, _, _, _, s', ((es ++ [(YQ hF, (at1 : Int))]) ++ out), 0, (by rw [hall, hrun, hrF, YG, hs']; simp [XR]), (by rw [hse, if_pos (Classical.not_not.1 h8)]; rfl), (by rw [Y0 (fun x hx => (hkk.2 h7 x hx).1), hse, hst, if_pos (Classical.not_not.1 h8)]), (by simp only [List.length_append, List.length_cons, List.length_nil]; omega), rfl⟩
                 ·rw [Y0 (fun x hx => (hkk.2 h7 x hx).1)]
                  exact (Take.ent' (by repeat' constructor)).trans (Z2 hlE hlO rfl)
               ·refine Wp.skip (Qb ?_)
                apply YN (fB := []) mixed 8 [(8, true)] rfl rfl (by kernel_rfl)
                apply Y5 [⟨0, 139, _, [], false⟩, ⟨1, 140, _, [0], false⟩, ⟨2, 141, _, [], false⟩, ⟨3, 142, _, [2], false⟩, ⟨4, 143, _, [], false⟩, ⟨5, 144, _, [4], false⟩, ⟨6, 145, _, [3, 5], false⟩, ⟨7, 146, _, [1, 6], false⟩] [] [0, 1, 2, 3, 4, 5, 6, 7] [] (.inr rfl) rfl rfl rfl (by kernel_rfl) rfl rfl rfl rfl
                ·refine AllF.cons rfl rfl rfl rfl ?_ ?_
                 ·refine Qz (vs := [_, _, _, _]) rfl rfl rfl (by rfl) ?_
                  exact Qn rfl
                 refine AllF.cons rfl rfl rfl rfl ?_ ?_
                 ·refine Qk rfl rfl (by repeat' constructor) (Za _ _ _ _ (by omega) (by omega)) ?_
                  rintro _ _ ⟨rfl, rfl⟩
                  simp only [Qv]
                  exact WpL.nil ⟨rfl, rfl, rfl, by exact Ent.refl _⟩
                 refine AllF.cons rfl rfl rfl rfl ?_ ?_
                 ·exact Qj (o2 := 1) rfl rfl rfl (Qn rfl)
                 refine AllF.cons rfl rfl rfl rfl ?_ ?_
                 ·refine Qm rfl rfl (by rfl) ?_
                  exact Qn rfl
                 refine AllF.cons rfl rfl rfl rfl ?_ ?_
                 ·exact Qj (o2 := 2) rfl rfl rfl (Qn rfl)
                 refine AllF.cons rfl rfl rfl rfl ?_ ?_
                 ·refine Qm rfl rfl (by rfl) ?_
                  exact Qn rfl
                 refine AllF.cons rfl rfl rfl rfl ?_ ?_
                 ·refine Xl rfl rfl ?_
                  exact Qn rfl
                 refine AllF.cons rfl rfl rfl rfl ?_ ?_
                 ·refine Xl rfl rfl ?_
                  exact Qn rfl
                 exact AllF.nil
                ·intro gM
                 refine QE rfl rfl rfl (by rfl) rfl ?_
                 refine WpL.nil ⟨rfl, rfl, ?_⟩
                 apply GoR.nil [] (.inr rfl) rfl rfl
                 ·exact AllF.nil
                 ·refine QW (gr := [(0, _), (1, _), (2, _), (4, _), (6, _), (7, _), (12, _), (13, _), (21, _)]) (FrLe.cons rfl (FrLe.cons rfl (FrLe.cons rfl (FrLe.cons rfl (FrLe.cons rfl (FrLe.cons rfl (FrLe.cons rfl (FrLe.cons rfl (FrLe.cons rfl FrLe.nil))))))))) ?_
                  refine Qb (Qb (Qa (Qd rfl rfl (WpL.nil (Wp.block ?_)))))
                  have hlOl : lO.length = out.length := by rw [← hlO, List.length_map]
                  have hrl : ∀ z ∈ out, z.1.row.length ≤ 4096 := by
                   obtain ⟨t, rows, ho, hk⟩ := hkk.1 (Classical.not_not.1 h7)
                   intro z hz
                   rw [ho] at hz
                   rcases List.mem_append.1 hz with hz | hz
                   ·exact (hk z hz).2
                   ·rw [List.mem_singleton.1 hz]; simp [Zn]
                  refine Wp.ownSomeN (T := 53) (s := 7) (a := aO) (by repeat' constructor) (fun hgo => ?_)
                  refine Wp.loopD (σ := RdZ) (fun x => x.i ≤ out.length ∧ x.px = (out.take x.i).flatMap (fun z => z.1.row) ∧ x.px.length ≤ 4096 * x.i) [22, 147, 148, 149, 150, 151, 152, 153, 154, 155, 156, 157, 158, 159, 160, 161, 162, 163] (fun x => [(22, .int .i64 (x.i : Int))]) (fun x => [QD gM [.int .i64 (QT hF.K), .int .i64 hF.M, .int .i64 hF.W, .int .i64 hF.H, .slice x.aM x.px.length x.cM] 71, own 92 1 x.aM x.cM x.px.length (XG x.px), own 53 7 a126 c126 ((es ++ [(YQ hF, (at1 : Int))]) ++ out).length (lE.flatMap (fun r => eaC r.1 r.2.1 r.2.2) ++ lO.flatMap (fun r => eaC r.1 r.2.1 r.2.2)), own 53 7 aO cO out.length (lO.flatMap (fun r => eaC r.1 r.2.1 r.2.2)), Zc (lE.map (fun r => own 92 1 r.2.1 r.2.2 (Zk r.1).length (XG (Zk r.1)))), Zc (lO.map (fun r => own 92 1 r.2.1 r.2.2 (Zk r.1).length (XG (Zk r.1)))), QD gS [.slice a126 ((es ++ [(YQ hF, (at1 : Int))]) ++ out).length c126, .slice aI (X9 es).length cI, .int .i64 0, .int .i64 0, .int .i64 0] 33, QD gO [.slice none 0 0, .slice none 0 0, .int .i64 0, .int .i64 0, .int .i64 0] 33, imR aI cI (X9 es), A0, QD gB [.int .i64 a, .int .i64 b, .int .i64 d] 24]) (fun x => out.length - x.i) ⟨0, [], none, 0⟩ ?_ (by repeat (first | exact FrLe.nil | refine FrLe.cons rfl ?_)) ?_ ?_
                  ·exact ⟨Nat.zero_le _, by simp, by simp⟩
                  ·refine Ent.trans (m := [QD gM [.int .i64 (QT hF.K), .int .i64 hF.M, .int .i64 hF.W, .int .i64 hF.H, .slice none 0 0] 71, own 53 7 a126 c126 ((es ++ [(YQ hF, (at1 : Int))]) ++ out).length (lE.flatMap (fun r => eaC r.1 r.2.1 r.2.2) ++ lO.flatMap (fun r => eaC r.1 r.2.1 r.2.2)), own 53 7 aO cO out.length (lO.flatMap (fun r => eaC r.1 r.2.1 r.2.2)), Zc (lE.map (fun r => own 92 1 r.2.1 r.2.2 (Zk r.1).length (XG (Zk r.1)))), Zc (lO.map (fun r => own 92 1 r.2.1 r.2.2 (Zk r.1).length (XG (Zk r.1)))), QD gS [.slice a126 ((es ++ [(YQ hF, (at1 : Int))]) ++ out).length c126, .slice aI (X9 es).length cI, .int .i64 0, .int .i64 0, .int .i64 0] 33, QD gO [.slice none 0 0, .slice none 0 0, .int .i64 0, .int .i64 0, .int .i64 0] 33, imR aI cI (X9 es), A0, QD gB [.int .i64 a, .int .i64 b, .int .i64 d] 24]) (Take.ent' (by repeat' constructor)) (Ent.cons (Ent.own_nil (Ent.refl _)))
                  ·rintro ⟨i, px, aM, cM⟩ ⟨hi0, hpx, hpl⟩
                   dsimp only at hi0 hpx hpl ⊢
                   refine Qb (Qb (Qa (Qc rfl rfl (Qc rfl rfl (QO rfl rfl (Xc rfl rfl rfl (WpL.nil (Qh rfl (fun h10 => ?_) (fun h10 => ?_)))))))))
                   ·have hio : i < out.length := by omega
                    have hil : i < lO.length := by omega
                    obtain ⟨gE, hgE⟩ := hgo (fun q => by have := congrArg List.length q; rw [eaC_len] at this; simp only [List.length_nil] at this; omega)
                    subst hgE
                    have hzi : Zk (lO[i]'hil).1 = out[i].1.row := by have q : (lO.map (·.1))[i]'(by simpa using hil) = out[i] := (by simp only [hlO]); rw [List.getElem_map] at q; unfold Zk; rw [q]
                    have hzl : (Zk (lO[i]'hil).1).length ≤ 4096 := by rw [hzi]; exact hrl _ (List.getElem_mem hio)
                    have hcell : (lO.flatMap (fun r => eaC r.1 r.2.1 r.2.2))[0 + i * 7 + 5]? = some (.slice (lO[i]'hil).2.1 (Zk (lO[i]'hil).1).length (lO[i]'hil).2.2) := by have q := flat_cell (s := 7) (f := fun r => eaC r.1 r.2.1 r.2.2) (fun _ => rfl) lO i 5 hil (by decide); rw [Nat.zero_add, q]; rfl
                    refine Wp.skip (Qb (Wp.block ?_))
                    apply Xk (fB := []) mixed [(8, false), (2, false)] (by kernel_rfl)
                    apply Xd [⟨0, 153, _, [], false⟩, ⟨1, 154, _, [0], false⟩, ⟨2, 155, _, [1], false⟩, ⟨3, 156, _, [], false⟩, ⟨4, 157, _, [], false⟩, ⟨5, 158, _, [3, 4], false⟩, ⟨6, 159, _, [5], false⟩, ⟨7, 160, _, [6], false⟩] [] [0, 1, 2, 3, 4, 5, 6, 7] [162, 163] (.inr rfl) rfl rfl rfl (by kernel_rfl) rfl rfl rfl
                    ·refine AllF.cons rfl rfl rfl rfl ?_ ?_
                     ·exact Qj (o2 := 2) rfl rfl rfl (Qn rfl)
                     refine AllF.cons rfl rfl rfl rfl ?_ ?_
                     ·exact Qj (o2 := 4) rfl rfl rfl (Qn rfl)
                     refine AllF.cons rfl rfl rfl rfl ?_ ?_
                     ·refine Qm rfl rfl (by rfl) ?_
                      exact Qn rfl
                     refine AllF.cons rfl rfl rfl rfl ?_ ?_
                     ·exact Qc rfl rfl (Qn rfl)
                     refine AllF.cons rfl rfl rfl rfl ?_ ?_
                     ·exact Qc rfl rfl (Qn rfl)
                     refine AllF.cons rfl rfl rfl rfl ?_ ?_
                     ·refine s_ixA (k := i) rfl rfl rfl (by omega) ?_
                      exact Qn rfl
                     refine AllF.cons rfl rfl rfl rfl ?_ ?_
                     ·exact Qj (o2 := 0 + i * 7 + 5) rfl rfl rfl (Qn rfl)
                     refine AllF.cons rfl rfl rfl rfl ?_ ?_
                     ·refine s_ldR (v := .slice (lO[i]'hil).2.1 (Zk (lO[i]'hil).1).length (lO[i]'hil).2.2) rfl rfl (Q4 (T := 53) (s := 7) (c := cO) (m := out.length)) (by exact Take.ent' (by repeat' constructor)) hcell ?_
                      exact Qn rfl
                     exact AllF.nil
                    ·refine s_appR (m2 := (Zk (lO[i]'hil).1).length) rfl rfl rfl (by repeat' constructor) (rc_row (Tx := 92) (row := Zk) (List.getElem_mem hil)) (by exact Take.ent' (by repeat' constructor)) (by rw [Zf, Nat.mul_one]) (by rfl) (by rfl) (pxs_one _) (by omega) (by omega) ?_
                     intro a161 c161
                     rw [pxs_app, ← List.length_append]
                     refine WpL.nil ⟨rfl, rfl, ?_⟩
                     apply Xd [⟨9, 162, _, [0, 1, 2, 3, 4, 5, 6, 7, 8], false⟩, ⟨10, 163, _, [0, 1, 2, 3, 4, 5, 6, 7, 8, 9], false⟩] [] [9, 10] [] (.inr rfl) rfl rfl rfl (by kernel_rfl) rfl rfl rfl
                     ·refine AllF.cons rfl rfl rfl rfl ?_ ?_
                      ·exact Qj (o2 := 2) rfl rfl rfl (Qn rfl)
                      refine AllF.cons rfl rfl rfl rfl ?_ ?_
                      ·exact Qj (o2 := 4) rfl rfl rfl (Qn rfl)
                      exact AllF.nil
                     ·refine QN rfl rfl rfl (WpL.nil ⟨rfl, rfl, ?_⟩)
                      apply GoR.nil [] (.inr rfl) rfl rfl
                      ·exact AllF.nil
                      ·refine Qa (Qc rfl rfl (Qx rfl rfl rfl (Qp (by omega) (by omega)) ?_))
                       refine Qd rfl rfl (WpL.nil (Qq (⟨i + 1, px ++ Zk (lO[i]'hil).1, a161, c161⟩ : RdZ) ?_ ?_ (by ((repeat (first | exact Top.refl | refine Top.push rfl ?_)); done)) (by repeat (first | exact FrLe.nil | refine FrLe.cons rfl ?_)) ?_))
                       ·exact ⟨by simp only; omega, by simp only; rw [hpx, hzi]; exact flat_take hio, by simp only [List.length_append]; omega⟩
                       ·simp only; omega
                       ·exact Take.ent' (by repeat' constructor)
                   ·refine QV (Qb (Qa (Qj (o2 := 1) rfl rfl rfl (Qm rfl rfl (by rfl) ?_))))
                    refine Qz (vs := [_, _, _, _, _]) rfl rfl rfl (by rfl) ?_
                    refine XT rfl rfl (by rfl) (by rfl) (by rfl) (by rfl) ?_
                    intro g9
                    obtain ⟨tt, rows, hout, hrows⟩ := hkk.1 (Classical.not_not.1 h7)
                    have himb := imsO_body (h := hF) (es := es) (n := (at1 : Int)) hout (fun x hx => (hrows x hx).1)
                    have hpxe : px = (imOf hF out).px := by rw [hpx, List.take_of_length_le (by omega)]; rfl
                    subst hpxe
                    refine Yc (imOf hF out) rfl rfl rfl (by repeat' constructor) rfl (by rfl) (by rfl) (by rfl) (by rfl) (by omega) (by omega) ?_
                    intro a168 c168
                    rw [← himb]
                    refine Qj (o2 := 1) rfl rfl rfl (QN rfl rfl rfl (WpL.nil (QW (gr := [(0, _), (1, _), (2, _), (4, _), (6, _), (7, _), (13, _)]) (FrLe.cons rfl (FrLe.cons rfl (FrLe.cons rfl (FrLe.cons rfl (FrLe.cons rfl (FrLe.cons rfl (FrLe.cons rfl FrLe.nil))))))) ?_)))
                    refine Qa (Qc rfl rfl (Qd rfl rfl (WpL.nil (Qq (Q := fun _ _ _ _ => False) (⟨toN, some hF, (es ++ [(YQ hF, (at1 : Int))]) ++ out, a126, c126, a168, c168⟩ : RdY) ?_ ?_ (by exact Top.le (by repeat (first | exact FrLe.nil | refine FrLe.cons rfl ?_))) (by repeat (first | exact FrLe.nil | refine FrLe.cons rfl ?_)) ?_))))
                    ·refine ⟨by simp only; omega, (fun q hq => by cases hq; exact hFf.2.1), ?_, by simp only [List.length_append, List.length_cons, List.length_nil]; omega, by simp only; rw [himb]; simp only [List.length_append, List.length_cons, List.length_nil]; omega⟩
                     simp only
                     have hb0 := hbo.1 (Classical.not_not.1 h7)
                     rw [Int.toNat_natCast, Int.toNat_natCast] at hb0
                     rw [hall, hrun, hrF, YG, hb0, Ys, Ys, himb]
                     simp only [List.length_append, List.length_cons, List.length_nil, List.append_assoc]
                     rfl
                    ·simp only; omega
                    ·exact (Take.ent' (by repeat' constructor)).trans (Ent.cons (Ent.cons (Z2 hlE hlO rfl)))
   ·have hg1 := of_decide_eq_false hg1
    refine Qe rfl rfl rfl (by decide) (Qe rfl rfl rfl (by decide) (Qe rfl rfl rfl (by decide) (Qe rfl rfl rfl (by decide) (Qe rfl rfl rfl (by decide) (Qe rfl rfl rfl (by decide) (Qe rfl rfl rfl (by decide) (Qe rfl rfl rfl (by decide) (Qu rfl rfl rfl (WpL.nil (QS rfl (QV (Qb ?_))))))))))))
    refine Qb (Qa (Qc rfl rfl (Qc rfl rfl (QO rfl rfl (s_ge rfl rfl rfl (WpL.nil (QW (gr := [(0, _), (1, _), (2, _), (4, _), (6, _), (7, _), (8, _), (43, _)]) (FrLe.cons rfl (FrLe.cons rfl (FrLe.cons rfl (FrLe.cons rfl (FrLe.cons rfl (FrLe.cons rfl (FrLe.cons rfl (FrLe.cons rfl FrLe.nil)))))))) ?_)))))))
    refine Qh rfl (fun h3 => ?_) (fun h3 => ?_)
    ·have hyl : y = bs.length := by omega
     refine Qb (Qa (Qc rfl rfl (QO rfl rfl (Qj (o2 := 4) rfl rfl rfl (QN rfl rfl rfl (WpL.nil (Qb (Qa ?_))))))))
     refine Qz (vs := [_, _, _, _, _]) rfl rfl rfl (by rfl) ?_
     refine QE rfl rfl rfl (by rfl) rfl ?_
     refine WpL.nil (Qg ?_)
     apply RetQ.mk
     ·exact (Xj rfl rfl (by rfl))
     ·exact ⟨_, _, _, _, (⟨hd, 0, .no, bs.length, (X9 es).length, fin, 0⟩ : PS), es, _, (by rw [hall, hrun]; rw [hyl, List.drop_of_length_le (Nat.le_refl _), show QF (QG a) (QH b) (QI d) ⟨hd, 0, .no, bs.length, (X9 es).length, false, 0⟩ [] = (⟨hd, 0, .no, bs.length, (X9 es).length, false, 0⟩, []) from rfl, fin_ah hhd]; simp [XR]), (by simp), rfl, by omega, rfl⟩
     ·exact Take.ent' (by repeat' constructor)
    ·exfalso; omega

end Go.Proofs.YtggamdlpiejbiaaGreat
