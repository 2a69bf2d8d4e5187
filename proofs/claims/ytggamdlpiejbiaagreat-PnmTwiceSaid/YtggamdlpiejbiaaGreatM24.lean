/- Walks and plain laws, a part of the proof of PnmTwice: every input that the law's guards let in, no condition beside. -/
import Derived.Test.YtggamdlpiejbiaaGreatM23
namespace Go.Proofs.YtggamdlpiejbiaaGreat
open Go.RowKit Go.Shelf


structure RrX where
  (y : Nat) (out : List (Evt × Int)) (aO : Option Addr) (cO : Nat)
theorem badR_le (K : Int) (W H : Nat) (M : Int) (R : List Int) : YS K W H M R ≤ R.length := by
  unfold YS
  split
  · omega
  · have hw := Q7 M
    rcases ZZ ((Qi M : Nat) : Int) M (Yl (Qi M) (R.take (Qy K W (Qi M) * H))) 0 with ⟨hz, _⟩ | ⟨j, hjl, _, _, hje⟩
    · omega
    · rw [YL, List.length_take] at hjl
      rw [hje]
      rcases hw with e | e <;> rw [e] at hjl ⊢ <;> push_cast <;> omega

set_option maxHeartbeats 2000000 in
theorem rraw_open (A0 : HP) (a0 : Option Addr) (c0 : Nat) (bs : List Int) (hA : RdsL [A0] a0 (XY bs)) (hbs : ∀ x ∈ bs, 0 ≤ x ∧ x ≤ 255) (hc0 : bs.length ≤ c0) (hbl : bs.length ≤ 100000000000) (at0 : Nat) (hat : at0 ≤ bs.length) (h : HS) (hf : Yo h) (hK : 4 ≤ h.K) (fin : Bool) : Fn Tryz.prog 59 #[.slice a0 bs.length c0, .int .i64 (at0 : Int), .agg #[.int .i64 h.K, .int .i64 ((h.W.toNat : Nat) : Int), .int .i64 ((h.H.toNat : Nat) : Int), .int .i64 h.M], .bool fin] [A0] (fun v l => ∃ a c out to f, (∀ l0 l1 l2 imgs, Y4 l0 l1 l2 fin h (.rw (rw0 h)) bs at0 imgs out to f) ∧ ((at0 : Int) ≤ to ∧ to ≤ bs.length) ∧ (out.length : Int) ≤ to - at0 + 2 ∧ ((f = 0 → ∃ t rows, out = rows ++ [Zn t] ∧ ∀ x ∈ rows, evRw x) ∧ (f ≠ 0 → ∀ x ∈ out, evRw x)) ∧ v = .tuple #[.slice a out.length c, .int .i64 to, .int .i64 f] ∧ l = [esR a c out, A0]) := by
 have hM := hf.2.2
 have hM2 := hM
 unfold XN at hM2
 have hWn : ((h.W.toNat : Nat) : Int) = h.W := by omega
 have hHn : ((h.H.toNat : Nat) : Int) = h.H := by omega
 have hR : RawH h.K ((h.W.toNat : Nat) : Int) ((h.H.toNat : Nat) : Int) h.M := by rw [hWn, hHn]; exact ⟨hM, hK⟩
 have hw := Q7 h.M
 have hsb := X1 (K := h.K) (W := h.W.toNat) hw (by omega) (by omega)
 have hmb : ∀ y : Nat, y ≤ h.H.toNat → y * (Qy h.K h.W.toNat (Qi h.M)) ≤ 65536 * 24576 := fun y hy => Nat.mul_le_mul (by omega) hsb.2
 have hAd : RdsL [A0] (sla a0 at0 c0 1) (XY (bs.drop at0)) := by have q := hA.sla at0 bs.length c0 1 hc0; rwa [u8s_from] at q
 have hbd2 : ∀ x ∈ bs.drop at0, 0 ≤ x ∧ x ≤ 255 := fun x hx => hbs x (List.mem_of_mem_drop hx)
 have hble := badR_le h.K h.W.toNat h.H.toNat h.M (bs.drop at0)
 rw [List.length_drop] at hble
 obtain ⟨bad, hbad⟩ : ∃ bad, bad = (YS h.K h.W.toNat h.H.toNat h.M (bs.drop at0)) := ⟨_, rfl⟩
 rw [← hbad] at hble
 refine Qo (vs := [.slice a0 bs.length c0, .int .i64 (at0 : Int), .agg #[.int .i64 h.K, .int .i64 ((h.W.toNat : Nat) : Int), .int .i64 ((h.H.toNat : Nat) : Int), .int .i64 h.M], .bool fin]) Tryz.func59 rfl Tryz.ntmps59 rfl (Qb (Qa (Xf rfl rfl rfl ?_)))
 intro gB
 refine Qd rfl rfl (Qd rfl rfl (Qd rfl rfl (WpL.nil (Qb (Qa (Qd rfl rfl (WpL.nil (Qb (Qa ?_)))))))))
 refine Qz (vs := [_, _, _, _]) rfl rfl rfl (by rfl) ?_
 refine Qk rfl rfl (by repeat' constructor) (rStride_spec h.K h.W.toNat h.H.toNat h.M hR) ?_
 rintro _ _ ⟨rfl, rfl⟩
 simp only [Qv]
 refine Qd rfl rfl (WpL.nil (Qb ?_))
 apply Q3 mixed [⟨17, _, []⟩, ⟨18, _, []⟩, ⟨19, _, [0, 1]⟩, ⟨20, _, []⟩, ⟨21, _, [2, 3]⟩, ⟨13, _, [4, 0, 1, 2, 3]⟩] rfl
 ·refine AllObs.mk ?_ ?_
  ·exact Qc rfl rfl (Qn rfl)
  refine AllObs.mk ?_ ?_
  ·exact Qc rfl rfl (Qn rfl)
  refine AllObs.mk ?_ ?_
  ·refine s_sll_l (L := at0) rfl rfl rfl (by omega) hat ?_
   rw [show bs.length - at0 = (bs.drop at0).length from List.length_drop.symm]
   exact Qn rfl
  refine AllObs.mk ?_ ?_
  ·refine Qz (vs := [_, _, _, _]) rfl rfl rfl (by rfl) ?_
   exact Qn rfl
  refine AllObs.mk ?_ ?_
  ·refine Qk rfl rfl (by repeat' constructor) (rBad_spec A0 (sla a0 at0 c0 1) (c0 - at0) (bs.drop at0) hAd hbd2 (by rw [List.length_drop]; omega) (by rw [List.length_drop]; omega) h.K h.W.toNat h.H.toNat h.M hR) ?_
   rintro _ _ ⟨rfl, rfl⟩
   simp only [Qv]
   rw [← hbad]
   exact WpL.nil ⟨rfl, rfl, rfl, by exact Take.ent' (by repeat' constructor)⟩
  refine AllObs.mk ?_ ?_
  ·exact Qd rfl rfl (Qn rfl)
  exact AllObs.nil
 ·refine Qb (Qb (Qa (Qd rfl rfl (WpL.nil (Wp.block ?_)))))
  refine Wp.loopD (σ := RrX) (fun x => x.y ≤ h.H.toNat ∧ at0 + x.y * (Qy h.K h.W.toNat (Qi h.M)) ≤ bs.length ∧ x.out.length ≤ x.y ∧ (∀ z ∈ x.out, evRw z) ∧ (∀ l0 l1 l2 imgs, rwI l0 l1 l2 h bs at0 imgs x.y x.out) ∧ ¬ (bad > 0 ∧ bad ≤ ((x.y * (Qy h.K h.W.toNat (Qi h.M)) : Nat) : Int))) [8, 9, 10, 11, 14, 22, 23, 24, 25, 26, 27, 28, 29, 30, 31, 32, 33, 34, 35, 36, 37, 38, 39, 40, 41, 42, 43, 44, 45, 46, 47, 48, 49, 50, 51, 52, 53, 54, 55, 56, 57, 58, 59, 60, 61, 62, 63, 64, 65, 66, 67, 68, 69, 70, 71, 72, 73, 74, 75, 76, 77, 78, 79, 80, 81, 82] (fun x => [(14, .int .i64 (x.y : Int)), (11, .slice x.aO x.out.length x.cO)]) (fun x => [QD gB [.int .i64 h.K, .int .i64 ((h.W.toNat : Nat) : Int), .int .i64 ((h.H.toNat : Nat) : Int), .int .i64 h.M] 113, esR x.aO x.cO x.out, A0]) (fun x => h.H.toNat - x.y) ⟨0, [], none, 0⟩ ?_ (by repeat (first | exact FrLe.nil | refine FrLe.cons rfl ?_)) ?_ ?_
  ·exact ⟨Nat.zero_le _, by simp only; omega, Nat.le_refl _, fun z hz => by simp at hz, fun l0 l1 l2 imgs => rwI0 (by omega), by simp only [Nat.zero_mul]; omega⟩
  ·refine Ent.trans (m := [QD gB _ _, A0]) (Take.ent' (by repeat' constructor)) (Ent.cons (ZX (Ent.refl _)))
  ·rintro ⟨y, out, aO, cO⟩ ⟨hy0, hya, hol, hkk, hI, hnb⟩
   dsimp only at hy0 hya hol hkk hI hnb ⊢
   have hmy := hmb y hy0
   have hyl : y ≤ y * (Qy h.K h.W.toNat (Qi h.M)) := Nat.le_mul_of_pos_right _ (by omega)
   have hy1 : (y + 1) * (Qy h.K h.W.toNat (Qi h.M)) = y * (Qy h.K h.W.toNat (Qi h.M)) + (Qy h.K h.W.toNat (Qi h.M)) := by rw [Nat.add_mul, Nat.one_mul]
   have hc1 : ((y : Int) + 1) * (((Qy h.K h.W.toNat (Qi h.M)) : Nat) : Int) = (((y + 1) * (Qy h.K h.W.toNat (Qi h.M)) : Nat) : Int) := by push_cast; rfl
   have hc0' : (y : Int) * (((Qy h.K h.W.toNat (Qi h.M)) : Nat) : Int) = ((y * (Qy h.K h.W.toNat (Qi h.M)) : Nat) : Int) := by push_cast; rfl
   refine Qb (Qb (Qa (Qc rfl rfl (Qj (o2 := 2) rfl rfl rfl (Qm rfl rfl (by rfl) ?_)))))
   refine Xc rfl rfl rfl (WpL.nil (Qh rfl (fun h1 => ?_) (fun h1 => ?_)))
   ·have hyH : (y : Int) < h.H := by omega
    have hm1 := hmb (y + 1) (by omega)
    refine Wp.skip (Qb (Wp.block ?_))
    refine Qb (Qb (Qa (Qc rfl rfl (XJ rfl rfl rfl (Qc rfl rfl (QP rfl rfl rfl (fun hg1 => ?_) (fun hg1 => ?_)))))))
    ·have hg1 := of_decide_eq_true hg1
     refine Qc rfl rfl (Qf rfl rfl (Qc rfl rfl (Qf rfl rfl (Qx rfl rfl rfl (Qp (by omega) (by omega)) ?_))))
     refine Qf rfl rfl (Qc rfl rfl (Qf rfl rfl (XQ rfl rfl rfl (Qp (by rw [hc1]; omega) (by rw [hc1]; omega)) ?_)))
     rw [hc1]
     refine Qf rfl rfl (s_le rfl rfl rfl (Qr rfl rfl rfl (WpL.nil (Qh rfl (fun h2 => ?_) (fun h2 => ?_)))))
     ·refine Qb (Qa (Qc rfl rfl (Qc rfl rfl (Qc rfl rfl (Qx rfl rfl rfl (Qp (by omega) (by omega)) ?_)))))
      refine Qd rfl rfl (Qd rfl rfl (Qd rfl rfl (WpL.nil (Qg ?_))))
      apply RetQ.mk
      ·exact (Res.three rfl rfl rfl rfl)
      ·exact ⟨_, _, out, (at0 + bad), 5, fun l0 l1 l2 imgs => (by have q := rw_bad' (fin := fin) hf (hI l0 l1 l2 imgs) hyH (by rw [← hbad]; omega) (by rw [← hbad]; omega) (by rw [← hbad]; omega); rw [← hbad] at q; exact q), ⟨by omega, by omega⟩, (by omega), ⟨fun q => absurd q (by decide), fun _ => hkk⟩, rfl, rfl⟩
      ·exact Take.ent' (by repeat' constructor)
     ·have hnb2 : ¬ (bad > 0 ∧ bad ≤ (((y + 1) * (Qy h.K h.W.toNat (Qi h.M)) : Nat) : Int)) := fun q => by omega
      refine Wp.skip (Qb (Qb (Qa (Qc rfl rfl (Qc rfl rfl (Qx rfl rfl rfl (Qp (by omega) (by omega)) ?_))))))
      refine Qc rfl rfl (XQ rfl rfl rfl (Qp (by rw [hc1]; omega) (by rw [hc1]; omega)) ?_)
      rw [hc1]
      refine Qx rfl rfl rfl (Qp (by omega) (by omega)) ?_
      refine Qc rfl rfl (QO rfl rfl (XJ rfl rfl rfl (WpL.nil (Qh rfl (fun h3 => ?_) (fun h3 => ?_)))))
      ·refine Qb (Qb (Qa (Qc rfl rfl (WpL.nil (XH rfl (fun h4 => ?_) (fun h4 => ?_))))))
       ·refine Qb (Qa (Qc rfl rfl (Qc rfl rfl (QO rfl rfl (Qd rfl rfl (Qd rfl rfl (Qd rfl rfl (WpL.nil (Qg ?_)))))))))
        apply RetQ.mk
        ·exact (Res.three rfl rfl rfl rfl)
        ·exact ⟨_, _, out, bs.length, 6, fun l0 l1 l2 imgs => (by have q := rw_short (fin := fin) hf (hI l0 l1 l2 imgs) hyH hya (by rw [← hbad]; exact hnb2) (by omega); rw [if_pos h4] at q; exact q), ⟨by omega, by omega⟩, (by omega), ⟨fun q => absurd q (by decide), fun _ => hkk⟩, rfl, rfl⟩
        ·exact Take.ent' (by repeat' constructor)
       ·refine Wp.skip (Qb (Qa (Qc rfl rfl (Qc rfl rfl (QO rfl rfl (Qd rfl rfl (Qd rfl rfl (Qd rfl rfl (WpL.nil (Qg ?_))))))))))
        apply RetQ.mk
        ·exact (Res.three rfl rfl rfl rfl)
        ·exact ⟨_, _, out, bs.length, 9, fun l0 l1 l2 imgs => (by have q := rw_short (fin := fin) hf (hI l0 l1 l2 imgs) hyH hya (by rw [← hbad]; exact hnb2) (by omega); rw [if_neg (by rw [h4]; decide)] at q; exact q), ⟨by omega, by omega⟩, (by omega), ⟨fun q => absurd q (by decide), fun _ => hkk⟩, rfl, rfl⟩
        ·exact Take.ent' (by repeat' constructor)
      ·have hle : at0 + (y + 1) * (Qy h.K h.W.toNat (Qi h.M)) ≤ bs.length := by omega
       have hHL : at0 + (y + 1) * (Qy h.K h.W.toNat (Qi h.M)) - (at0 + y * (Qy h.K h.W.toNat (Qi h.M))) = (Qy h.K h.W.toNat (Qi h.M)) := by omega
       have hrlen : ((bs.drop (at0 + y * (Qy h.K h.W.toNat (Qi h.M)))).take (Qy h.K h.W.toNat (Qi h.M))).length = (Qy h.K h.W.toNat (Qi h.M)) := by rw [List.length_take, List.length_drop]; omega
       have hAr : RdsL [A0] (sla a0 (at0 + y * (Qy h.K h.W.toNat (Qi h.M))) c0 1) (XY ((bs.drop (at0 + y * (Qy h.K h.W.toNat (Qi h.M)))).take (Qy h.K h.W.toNat (Qi h.M)))) := by have q := hA.sla (at0 + y * (Qy h.K h.W.toNat (Qi h.M))) (at0 + (y + 1) * (Qy h.K h.W.toNat (Qi h.M))) c0 1 (by omega); rwa [u8s_sub, hHL] at q
       have hbr : ∀ x ∈ ((bs.drop (at0 + y * (Qy h.K h.W.toNat (Qi h.M)))).take (Qy h.K h.W.toNat (Qi h.M))), 0 ≤ x ∧ x ≤ 255 := fun x hx => hbs x (List.mem_of_mem_drop (List.mem_of_mem_take hx))
       refine Wp.skip ?_
       apply Wp.drawEP (fB := []) mixed 25 [0, 1, 2, 3, 4, 5, 6, 7, 8, 9, 10, 11, 12, 13, 14, 16, 17, 18, 19, 20, 21, 15, 22, 23, 24] [58, 59, 60, 61, 62, 63, 64, 65, 66, 67, 68, 69, 70, 71, 72, 74, 75, 76, 77, 78, 79, 73, 80, 81, 82] 25 [(21, false), (1, false), (0, false)] (by kernel_rfl) (by kernel_rfl) (by kernel_rfl) (by kernel_rfl) (by kernel_rfl) (by kernel_rfl)
       apply Xb [⟨0, 58, _, [], true⟩, ⟨1, 59, _, [], false⟩, ⟨2, 60, _, [], false⟩, ⟨3, 61, _, [], false⟩, ⟨4, 62, _, [], false⟩, ⟨5, 63, _, [3, 4], false⟩, ⟨6, 64, _, [2, 5], false⟩, ⟨7, 65, _, [], false⟩, ⟨8, 66, _, [], false⟩, ⟨9, 67, _, [8], false⟩, ⟨10, 68, _, [], false⟩, ⟨11, 69, _, [9, 10], false⟩, ⟨12, 70, _, [7, 11], false⟩, ⟨13, 71, _, [1, 6, 12], false⟩, ⟨14, 72, _, [], false⟩, ⟨15, 74, _, [], true⟩, ⟨16, 75, _, [], true⟩, ⟨17, 76, _, [16], true⟩, ⟨18, 77, _, [], true⟩, ⟨19, 78, _, [17, 18], true⟩, ⟨20, 79, _, [15, 19], true⟩] [] [1, 2, 3, 4, 5, 6, 7, 8, 9, 10, 11, 12, 13, 14] [80, 81, 82] [80, 81, 82, 58, 74, 75, 76, 77, 78, 79] (.inl ⟨_, .nil⟩) rfl rfl rfl (by kernel_rfl) rfl (by kernel_rfl) rfl rfl
       ·refine Qs 0 [] rfl rfl rfl rfl (by kernel_rfl) rfl ?_ ?_
        ·exact Qc rfl rfl (Qn rfl)
        refine Ql 1 [] rfl rfl rfl rfl (by kernel_rfl) rfl ?_ ?_
        ·exact Qc rfl rfl (Qn rfl)
        refine Ql 2 [] rfl rfl rfl rfl (by kernel_rfl) rfl ?_ ?_
        ·exact Qc rfl rfl (Qn rfl)
        refine Ql 3 [] rfl rfl rfl rfl (by kernel_rfl) rfl ?_ ?_
        ·exact Qc rfl rfl (Qn rfl)
        refine Ql 4 [] rfl rfl rfl rfl (by kernel_rfl) rfl ?_ ?_
        ·exact Qc rfl rfl (Qn rfl)
        refine Ql 5 [3, 4] rfl rfl rfl rfl (by kernel_rfl) rfl ?_ ?_
        ·refine XQ rfl rfl rfl (Qp (by rw [hc0']; omega) (by rw [hc0']; omega)) ?_
         rw [hc0']
         exact Qn rfl
        refine Ql 6 [2, 5] rfl rfl rfl rfl (by kernel_rfl) rfl ?_ ?_
        ·refine Qx rfl rfl rfl (Qp (by omega) (by omega)) ?_
         exact Qn rfl
        refine Ql 7 [] rfl rfl rfl rfl (by kernel_rfl) rfl ?_ ?_
        ·exact Qc rfl rfl (Qn rfl)
        refine Ql 8 [] rfl rfl rfl rfl (by kernel_rfl) rfl ?_ ?_
        ·exact Qc rfl rfl (Qn rfl)
        refine Ql 9 [8] rfl rfl rfl rfl (by kernel_rfl) rfl ?_ ?_
        ·refine Qx rfl rfl rfl (Qp (by omega) (by omega)) ?_
         exact Qn rfl
        refine Ql 10 [] rfl rfl rfl rfl (by kernel_rfl) rfl ?_ ?_
        ·exact Qc rfl rfl (Qn rfl)
        refine Ql 11 [9, 10] rfl rfl rfl rfl (by kernel_rfl) rfl ?_ ?_
        ·refine XQ rfl rfl rfl (Qp (by rw [hc1]; omega) (by rw [hc1]; omega)) ?_
         rw [hc1]
         exact Qn rfl
        refine Ql 12 [7, 11] rfl rfl rfl rfl (by kernel_rfl) rfl ?_ ?_
        ·refine Qx rfl rfl rfl (Qp (by omega) (by omega)) ?_
         exact Qn rfl
        refine Ql 13 [1, 6, 12] rfl rfl rfl rfl (by kernel_rfl) rfl ?_ ?_
        ·refine Z7 (L := (at0 + y * (Qy h.K h.W.toNat (Qi h.M)))) (H := (at0 + (y + 1) * (Qy h.K h.W.toNat (Qi h.M)))) rfl rfl rfl rfl (by push_cast; omega) (by push_cast; omega) (by omega) (by omega) ?_
         rw [show at0 + (y + 1) * (Qy h.K h.W.toNat (Qi h.M)) - (at0 + y * (Qy h.K h.W.toNat (Qi h.M))) = ((bs.drop (at0 + y * (Qy h.K h.W.toNat (Qi h.M)))).take (Qy h.K h.W.toNat (Qi h.M))).length from hHL.trans hrlen.symm]
         exact Qn rfl
        refine Ql 14 [] rfl rfl rfl rfl (by kernel_rfl) rfl ?_ ?_
        ·refine Qz (vs := [_, _, _, _]) rfl rfl rfl (by rfl) ?_
         exact Qn rfl
        refine Qs 15 [] rfl rfl rfl rfl (by kernel_rfl) rfl ?_ ?_
        ·exact Qc rfl rfl (Qn rfl)
        refine Qs 16 [] rfl rfl rfl rfl (by kernel_rfl) rfl ?_ ?_
        ·exact Qc rfl rfl (Qn rfl)
        refine Qs 17 [16] rfl rfl rfl rfl (by kernel_rfl) rfl ?_ ?_
        ·refine Qx rfl rfl rfl (Qp (by omega) (by omega)) ?_
         exact Qn rfl
        refine Qs 18 [] rfl rfl rfl rfl (by kernel_rfl) rfl ?_ ?_
        ·exact Qc rfl rfl (Qn rfl)
        refine Qs 19 [17, 18] rfl rfl rfl rfl (by kernel_rfl) rfl ?_ ?_
        ·refine XQ rfl rfl rfl (Qp (by rw [hc1]; omega) (by rw [hc1]; omega)) ?_
         rw [hc1]
         exact Qn rfl
        refine Qs 20 [15, 19] rfl rfl rfl rfl (by kernel_rfl) rfl ?_ ?_
        ·refine Qx rfl rfl rfl (Qp (by omega) (by omega)) ?_
         exact Qn rfl
        exact AllF.nil
       ·refine Qk rfl rfl (by repeat' constructor) (rRow_spec A0 (sla a0 (at0 + y * (Qy h.K h.W.toNat (Qi h.M))) c0 1) (c0 - (at0 + y * (Qy h.K h.W.toNat (Qi h.M)))) ((bs.drop (at0 + y * (Qy h.K h.W.toNat (Qi h.M)))).take (Qy h.K h.W.toNat (Qi h.M))) hAr hbr (by rw [hrlen]; omega) (by rw [hrlen]; omega) h.K h.W.toNat h.H.toNat h.M hR hrlen) ?_
        rintro _ _ ⟨rr, a3, c3, hrr, rfl, rfl⟩
        simp only [Qv]
        have hwr : rr.length ≤ 4096 := by rw [hrr, YJ hw hrlen]; omega
        refine WpL.nil ⟨rfl, rfl, ?_⟩
        apply Xb [⟨22, 80, _, [20, 21], false⟩] [0, 15, 16, 17, 18, 19, 20] [15, 16, 17, 18, 19, 20, 22] [82] [82, 58] (.inl ⟨_, .nil⟩) rfl rfl rfl (by kernel_rfl) rfl (by kernel_rfl) rfl rfl
        ·refine Ql 22 [20, 21] rfl rfl rfl rfl (by kernel_rfl) rfl ?_ ?_
         ·refine Xl rfl rfl ?_
          exact Qn rfl
         exact AllF.nil
        ·refine XT rfl rfl (by rfl) (by rfl) (by rfl) (by rfl) ?_
         intro g2
         refine WpL.nil ⟨rfl, rfl, ?_⟩
         apply Xb [] [0] [0] [] [] (.inl ⟨_, .nil⟩) rfl rfl rfl (by kernel_rfl) rfl (by kernel_rfl) rfl rfl
         ·exact AllF.nil
         ·refine Yc ((⟨2, 0, 0, 0, 0, rr⟩, ((at0 + (y + 1) * (Qy h.K h.W.toNat (Qi h.M)) : Nat) : Int))) rfl rfl rfl (by repeat' constructor) rfl (by rfl) (by rfl) (by rfl) (by rfl) (by omega) (by omega) ?_
          intro a82 c82
          refine WpL.nil ⟨rfl, rfl, ?_⟩
          apply X4 [] 25 (by kernel_rfl) (.inr rfl) rfl rfl
          ·exact AllF.nil
          ·show WpL _ _ _ _ _ _ _ _
           refine Qd rfl rfl (WpL.nil (Qa (Qc rfl rfl (Qx rfl rfl rfl (Qp (by omega) (by omega)) ?_))))
           refine Qd rfl rfl (WpL.nil (Qq (⟨y + 1, out ++ [(⟨2, 0, 0, 0, 0, rr⟩, ((at0 + (y + 1) * (Qy h.K h.W.toNat (Qi h.M)) : Nat) : Int))], a82, c82⟩ : RrX) ?_ ?_ (by ((repeat (first | exact Top.refl | refine Top.push rfl ?_)); done)) (by repeat (first | exact FrLe.nil | refine FrLe.cons rfl ?_)) ?_))
           ·exact ⟨by simp only; omega, by simp only; omega, by simp only [List.length_append, List.length_cons, List.length_nil]; omega, fun x hx => by rcases List.mem_append.1 hx with hx | hx; exact hkk x hx; rw [List.mem_singleton.1 hx]; exact ⟨rfl, hwr⟩, fun l0 l1 l2 imgs => by have q := rw_row hf (hI l0 l1 l2 imgs) hyH (by rw [← hbad]; exact hnb2) (by omega); rw [← hrr] at q; exact q, by simp only; exact hnb2⟩
           ·simp only; omega
           ·exact Take.ent' (by repeat' constructor)
    ·have hg1 := of_decide_eq_false hg1
     have hnb2 : ¬ (bad > 0 ∧ bad ≤ (((y + 1) * (Qy h.K h.W.toNat (Qi h.M)) : Nat) : Int)) := fun q => by omega
     refine Qe rfl rfl rfl (by decide) (Qe rfl rfl rfl (by decide) (Qe rfl rfl rfl (by decide) (Qe rfl rfl rfl (by decide) (Qe rfl rfl rfl (by decide) (Qu rfl rfl rfl (WpL.nil (QS rfl (Wp.skip (Qb (Qb (Qa (Qc rfl rfl ?_))))))))))))
     refine Qc rfl rfl (Qx rfl rfl rfl (Qp (by omega) (by omega)) ?_)
     refine Qc rfl rfl (XQ rfl rfl rfl (Qp (by rw [hc1]; omega) (by rw [hc1]; omega)) ?_)
     rw [hc1]
     refine Qx rfl rfl rfl (Qp (by omega) (by omega)) ?_
     refine Qc rfl rfl (QO rfl rfl (XJ rfl rfl rfl (WpL.nil (Qh rfl (fun h3 => ?_) (fun h3 => ?_)))))
     ·refine Qb (Qb (Qa (Qc rfl rfl (WpL.nil (XH rfl (fun h4 => ?_) (fun h4 => ?_))))))
      ·refine Qb (Qa (Qc rfl rfl (Qc rfl rfl (QO rfl rfl (Qd rfl rfl (Qd rfl rfl (Qd rfl rfl (WpL.nil (Qg ?_)))))))))
       apply RetQ.mk
       ·exact (Res.three rfl rfl rfl rfl)
       ·exact ⟨_, _, out, bs.length, 6, fun l0 l1 l2 imgs => (by have q := rw_short (fin := fin) hf (hI l0 l1 l2 imgs) hyH hya (by rw [← hbad]; exact hnb2) (by omega); rw [if_pos h4] at q; exact q), ⟨by omega, by omega⟩, (by omega), ⟨fun q => absurd q (by decide), fun _ => hkk⟩, rfl, rfl⟩
       ·exact Take.ent' (by repeat' constructor)
      ·refine Wp.skip (Qb (Qa (Qc rfl rfl (Qc rfl rfl (QO rfl rfl (Qd rfl rfl (Qd rfl rfl (Qd rfl rfl (WpL.nil (Qg ?_))))))))))
       apply RetQ.mk
       ·exact (Res.three rfl rfl rfl rfl)
       ·exact ⟨_, _, out, bs.length, 9, fun l0 l1 l2 imgs => (by have q := rw_short (fin := fin) hf (hI l0 l1 l2 imgs) hyH hya (by rw [← hbad]; exact hnb2) (by omega); rw [if_neg (by rw [h4]; decide)] at q; exact q), ⟨by omega, by omega⟩, (by omega), ⟨fun q => absurd q (by decide), fun _ => hkk⟩, rfl, rfl⟩
       ·exact Take.ent' (by repeat' constructor)
     ·have hle : at0 + (y + 1) * (Qy h.K h.W.toNat (Qi h.M)) ≤ bs.length := by omega
      have hHL : at0 + (y + 1) * (Qy h.K h.W.toNat (Qi h.M)) - (at0 + y * (Qy h.K h.W.toNat (Qi h.M))) = (Qy h.K h.W.toNat (Qi h.M)) := by omega
      have hrlen : ((bs.drop (at0 + y * (Qy h.K h.W.toNat (Qi h.M)))).take (Qy h.K h.W.toNat (Qi h.M))).length = (Qy h.K h.W.toNat (Qi h.M)) := by rw [List.length_take, List.length_drop]; omega
      have hAr : RdsL [A0] (sla a0 (at0 + y * (Qy h.K h.W.toNat (Qi h.M))) c0 1) (XY ((bs.drop (at0 + y * (Qy h.K h.W.toNat (Qi h.M)))).take (Qy h.K h.W.toNat (Qi h.M)))) := by have q := hA.sla (at0 + y * (Qy h.K h.W.toNat (Qi h.M))) (at0 + (y + 1) * (Qy h.K h.W.toNat (Qi h.M))) c0 1 (by omega); rwa [u8s_sub, hHL] at q
      have hbr : ∀ x ∈ ((bs.drop (at0 + y * (Qy h.K h.W.toNat (Qi h.M)))).take (Qy h.K h.W.toNat (Qi h.M))), 0 ≤ x ∧ x ≤ 255 := fun x hx => hbs x (List.mem_of_mem_drop (List.mem_of_mem_take hx))
      refine Wp.skip ?_
      apply Wp.drawEP (fB := []) mixed 25 [0, 1, 2, 3, 4, 5, 6, 7, 8, 9, 10, 11, 12, 13, 14, 16, 17, 18, 19, 20, 21, 15, 22, 23, 24] [58, 59, 60, 61, 62, 63, 64, 65, 66, 67, 68, 69, 70, 71, 72, 74, 75, 76, 77, 78, 79, 73, 80, 81, 82] 25 [(21, false), (1, false), (0, false)] (by kernel_rfl) (by kernel_rfl) (by kernel_rfl) (by kernel_rfl) (by kernel_rfl) (by kernel_rfl)
      apply Xb [⟨0, 58, _, [], true⟩, ⟨1, 59, _, [], false⟩, ⟨2, 60, _, [], false⟩, ⟨3, 61, _, [], false⟩, ⟨4, 62, _, [], false⟩, ⟨5, 63, _, [3, 4], false⟩, ⟨6, 64, _, [2, 5], false⟩, ⟨7, 65, _, [], false⟩, ⟨8, 66, _, [], false⟩, ⟨9, 67, _, [8], false⟩, ⟨10, 68, _, [], false⟩, ⟨11, 69, _, [9, 10], false⟩, ⟨12, 70, _, [7, 11], false⟩, ⟨13, 71, _, [1, 6, 12], false⟩, ⟨14, 72, _, [], false⟩, ⟨15, 74, _, [], true⟩, ⟨16, 75, _, [], true⟩, ⟨17, 76, _, [16], true⟩, ⟨18, 77, _, [], true⟩, ⟨19, 78, _, [17, 18], true⟩, ⟨20, 79, _, [15, 19], true⟩] [] [1, 2, 3, 4, 5, 6, 7, 8, 9, 10, 11, 12, 13, 14] [80, 81, 82] [80, 81, 82, 58, 74, 75, 76, 77, 78, 79] (.inl ⟨_, .nil⟩) rfl rfl rfl (by kernel_rfl) rfl (by kernel_rfl) rfl rfl
      ·refine Qs 0 [] rfl rfl rfl rfl (by kernel_rfl) rfl ?_ ?_
       ·exact Qc rfl rfl (Qn rfl)
       refine Ql 1 [] rfl rfl rfl rfl (by kernel_rfl) rfl ?_ ?_
       ·exact Qc rfl rfl (Qn rfl)
       refine Ql 2 [] rfl rfl rfl rfl (by kernel_rfl) rfl ?_ ?_
       ·exact Qc rfl rfl (Qn rfl)
       refine Ql 3 [] rfl rfl rfl rfl (by kernel_rfl) rfl ?_ ?_
       ·exact Qc rfl rfl (Qn rfl)
       refine Ql 4 [] rfl rfl rfl rfl (by kernel_rfl) rfl ?_ ?_
       ·exact Qc rfl rfl (Qn rfl)
       refine Ql 5 [3, 4] rfl rfl rfl rfl (by kernel_rfl) rfl ?_ ?_
       ·refine XQ rfl rfl rfl (Qp (by rw [hc0']; omega) (by rw [hc0']; omega)) ?_
        rw [hc0']
        exact Qn rfl
       refine Ql 6 [2, 5] rfl rfl rfl rfl (by kernel_rfl) rfl ?_ ?_
       ·refine Qx rfl rfl rfl (Qp (by omega) (by omega)) ?_
        exact Qn rfl
       refine Ql 7 [] rfl rfl rfl rfl (by kernel_rfl) rfl ?_ ?_
       ·exact Qc rfl rfl (Qn rfl)
       refine Ql 8 [] rfl rfl rfl rfl (by kernel_rfl) rfl ?_ ?_
       ·exact Qc rfl rfl (Qn rfl)
       refine Ql 9 [8] rfl rfl rfl rfl (by kernel_rfl) rfl ?_ ?_
       ·refine Qx rfl rfl rfl (Qp (by omega) (by omega)) ?_
        exact Qn rfl
       refine Ql 10 [] rfl rfl rfl rfl (by kernel_rfl) rfl ?_ ?_
       ·exact Qc rfl rfl (Qn rfl)
       refine Ql 11 [9, 10] rfl rfl rfl rfl (by kernel_rfl) rfl ?_ ?_
       ·refine XQ rfl rfl rfl (Qp (by rw [hc1]; omega) (by rw [hc1]; omega)) ?_
        rw [hc1]
        exact Qn rfl
       refine Ql 12 [7, 11] rfl rfl rfl rfl (by kernel_rfl) rfl ?_ ?_
       ·refine Qx rfl rfl rfl (Qp (by omega) (by omega)) ?_
        exact Qn rfl
       refine Ql 13 [1, 6, 12] rfl rfl rfl rfl (by kernel_rfl) rfl ?_ ?_
       ·refine Z7 (L := (at0 + y * (Qy h.K h.W.toNat (Qi h.M)))) (H := (at0 + (y + 1) * (Qy h.K h.W.toNat (Qi h.M)))) rfl rfl rfl rfl (by push_cast; omega) (by push_cast; omega) (by omega) (by omega) ?_
        rw [show at0 + (y + 1) * (Qy h.K h.W.toNat (Qi h.M)) - (at0 + y * (Qy h.K h.W.toNat (Qi h.M))) = ((bs.drop (at0 + y * (Qy h.K h.W.toNat (Qi h.M)))).take (Qy h.K h.W.toNat (Qi h.M))).length from hHL.trans hrlen.symm]
        exact Qn rfl
       refine Ql 14 [] rfl rfl rfl rfl (by kernel_rfl) rfl ?_ ?_
       ·refine Qz (vs := [_, _, _, _]) rfl rfl rfl (by rfl) ?_
        exact Qn rfl
       refine Qs 15 [] rfl rfl rfl rfl (by kernel_rfl) rfl ?_ ?_
       ·exact Qc rfl rfl (Qn rfl)
       refine Qs 16 [] rfl rfl rfl rfl (by kernel_rfl) rfl ?_ ?_
       ·exact Qc rfl rfl (Qn rfl)
       refine Qs 17 [16] rfl rfl rfl rfl (by kernel_rfl) rfl ?_ ?_
       ·refine Qx rfl rfl rfl (Qp (by omega) (by omega)) ?_
        exact Qn rfl
       refine Qs 18 [] rfl rfl rfl rfl (by kernel_rfl) rfl ?_ ?_
       ·exact Qc rfl rfl (Qn rfl)
       refine Qs 19 [17, 18] rfl rfl rfl rfl (by kernel_rfl) rfl ?_ ?_
       ·refine XQ rfl rfl rfl (Qp (by rw [hc1]; omega) (by rw [hc1]; omega)) ?_
        rw [hc1]
        exact Qn rfl
       refine Qs 20 [15, 19] rfl rfl rfl rfl (by kernel_rfl) rfl ?_ ?_
       ·refine Qx rfl rfl rfl (Qp (by omega) (by omega)) ?_
        exact Qn rfl
       exact AllF.nil
      ·refine Qk rfl rfl (by repeat' constructor) (rRow_spec A0 (sla a0 (at0 + y * (Qy h.K h.W.toNat (Qi h.M))) c0 1) (c0 - (at0 + y * (Qy h.K h.W.toNat (Qi h.M)))) ((bs.drop (at0 + y * (Qy h.K h.W.toNat (Qi h.M)))).take (Qy h.K h.W.toNat (Qi h.M))) hAr hbr (by rw [hrlen]; omega) (by rw [hrlen]; omega) h.K h.W.toNat h.H.toNat h.M hR hrlen) ?_
       rintro _ _ ⟨rr, a3, c3, hrr, rfl, rfl⟩
       simp only [Qv]
       have hwr : rr.length ≤ 4096 := by rw [hrr, YJ hw hrlen]; omega
       refine WpL.nil ⟨rfl, rfl, ?_⟩
       apply Xb [⟨22, 80, _, [20, 21], false⟩] [0, 15, 16, 17, 18, 19, 20] [15, 16, 17, 18, 19, 20, 22] [82] [82, 58] (.inl ⟨_, .nil⟩) rfl rfl rfl (by kernel_rfl) rfl (by kernel_rfl) rfl rfl
       ·refine Ql 22 [20, 21] rfl rfl rfl rfl (by kernel_rfl) rfl ?_ ?_
        ·refine Xl rfl rfl ?_
         exact Qn rfl
        exact AllF.nil
       ·refine XT rfl rfl (by rfl) (by rfl) (by rfl) (by rfl) ?_
        intro g3
        refine WpL.nil ⟨rfl, rfl, ?_⟩
        apply Xb [] [0] [0] [] [] (.inl ⟨_, .nil⟩) rfl rfl rfl (by kernel_rfl) rfl (by kernel_rfl) rfl rfl
        ·exact AllF.nil
        ·refine Yc ((⟨2, 0, 0, 0, 0, rr⟩, ((at0 + (y + 1) * (Qy h.K h.W.toNat (Qi h.M)) : Nat) : Int))) rfl rfl rfl (by repeat' constructor) rfl (by rfl) (by rfl) (by rfl) (by rfl) (by omega) (by omega) ?_
         intro a82 c82
         refine WpL.nil ⟨rfl, rfl, ?_⟩
         apply X4 [] 25 (by kernel_rfl) (.inr rfl) rfl rfl
         ·exact AllF.nil
         ·show WpL _ _ _ _ _ _ _ _
          refine Qd rfl rfl (WpL.nil (Qa (Qc rfl rfl (Qx rfl rfl rfl (Qp (by omega) (by omega)) ?_))))
          refine Qd rfl rfl (WpL.nil (Qq (⟨y + 1, out ++ [(⟨2, 0, 0, 0, 0, rr⟩, ((at0 + (y + 1) * (Qy h.K h.W.toNat (Qi h.M)) : Nat) : Int))], a82, c82⟩ : RrX) ?_ ?_ (by ((repeat (first | exact Top.refl | refine Top.push rfl ?_)); done)) (by repeat (first | exact FrLe.nil | refine FrLe.cons rfl ?_)) ?_))
          ·exact ⟨by simp only; omega, by simp only; omega, by simp only [List.length_append, List.length_cons, List.length_nil]; omega, fun x hx => by rcases List.mem_append.1 hx with hx | hx; exact hkk x hx; rw [List.mem_singleton.1 hx]; exact ⟨rfl, hwr⟩, fun l0 l1 l2 imgs => by have q := rw_row hf (hI l0 l1 l2 imgs) hyH (by rw [← hbad]; exact hnb2) (by omega); rw [← hrr] at q; exact q, by simp only; exact hnb2⟩
          ·simp only; omega
          ·exact Take.ent' (by repeat' constructor)
   ·have hyH2 : y = h.H.toNat := by omega
    have hnH : (((Qy h.K h.W.toNat (Qi h.M)) : Nat) : Int) * ((h.H.toNat : Nat) : Int) = ((y * (Qy h.K h.W.toNat (Qi h.M)) : Nat) : Int) := by rw [← hyH2, Nat.mul_comm]; push_cast; rfl
    refine QV (Qb ?_)
    apply Yh (fB := [QD gB [.int .i64 h.K, .int .i64 ((h.W.toNat : Nat) : Int), .int .i64 ((h.H.toNat : Nat) : Int), .int .i64 h.M] 113]) [0, 1, 2, 3, 4, 5, 6, 7, 10, 11, 12, 13, 14, 15, 8, 9, 16, 17, 18] [83, 84, 85, 86, 87, 88, 89, 90, 93, 94, 95, 96, 97, 98, 91, 92, 8, 9, 10] 19 mixed (by kernel_rfl) [(14, false), (0, false)] (by kernel_rfl) (by kernel_rfl) (by kernel_rfl)
    apply Xb [⟨0, 83, _, [], true⟩, ⟨1, 84, _, [], false⟩, ⟨2, 85, _, [], false⟩, ⟨3, 86, _, [], false⟩, ⟨4, 87, _, [3], false⟩, ⟨5, 88, _, [2, 4], false⟩, ⟨6, 89, _, [1, 5], false⟩, ⟨7, 90, _, [6], false⟩, ⟨8, 93, _, [], true⟩, ⟨9, 94, _, [], true⟩, ⟨10, 95, _, [], true⟩, ⟨11, 96, _, [10], true⟩, ⟨12, 97, _, [9, 11], true⟩, ⟨13, 98, _, [8, 12], true⟩] [] [1, 2, 3, 4, 5, 6, 7] [92, 8, 9, 10] [92, 8, 9, 10, 83, 93, 94, 95, 96, 97, 98] (.inl ⟨_, by repeat' constructor⟩) rfl rfl rfl (by kernel_rfl) rfl (by kernel_rfl) rfl rfl
    ·refine Qs 0 [] rfl rfl rfl rfl (by kernel_rfl) rfl ?_ ?_
     ·exact Qc rfl rfl (Qn rfl)
     refine Ql 1 [] rfl rfl rfl rfl (by kernel_rfl) rfl ?_ ?_
     ·exact Qc rfl rfl (Qn rfl)
     refine Ql 2 [] rfl rfl rfl rfl (by kernel_rfl) rfl ?_ ?_
     ·exact Qc rfl rfl (Qn rfl)
     refine Ql 3 [] rfl rfl rfl rfl (by kernel_rfl) rfl ?_ ?_
     ·exact Qj (o2 := 2) rfl rfl rfl (Qn rfl)
     refine Ql 4 [3] rfl rfl rfl rfl (by kernel_rfl) rfl ?_ ?_
     ·refine Qm rfl rfl (by rfl) ?_
      exact Qn rfl
     refine Ql 5 [2, 4] rfl rfl rfl rfl (by kernel_rfl) rfl ?_ ?_
     ·refine XQ rfl rfl rfl (Qp (by rw [hnH]; omega) (by rw [hnH]; omega)) ?_
      rw [hnH]
      exact Qn rfl
     refine Ql 6 [1, 5] rfl rfl rfl rfl (by kernel_rfl) rfl ?_ ?_
     ·refine Qx rfl rfl rfl (Qp (by omega) (by omega)) ?_
      exact Qn rfl
     refine Ql 7 [6] rfl rfl rfl rfl (by kernel_rfl) rfl ?_ ?_
     ·refine Xl rfl rfl ?_
      exact Qn rfl
     refine Qs 8 [] rfl rfl rfl rfl (by kernel_rfl) rfl ?_ ?_
     ·exact Qc rfl rfl (Qn rfl)
     refine Qs 9 [] rfl rfl rfl rfl (by kernel_rfl) rfl ?_ ?_
     ·exact Qc rfl rfl (Qn rfl)
     refine Qs 10 [] rfl rfl rfl rfl (by kernel_rfl) rfl ?_ ?_
     ·exact Qj (o2 := 2) rfl rfl rfl (Qn rfl)
     refine Qs 11 [10] rfl rfl rfl rfl (by kernel_rfl) rfl ?_ ?_
     ·refine Qm rfl rfl (by rfl) ?_
      exact Qn rfl
     refine Qs 12 [9, 11] rfl rfl rfl rfl (by kernel_rfl) rfl ?_ ?_
     ·refine XQ rfl rfl rfl (Qp (by rw [hnH]; omega) (by rw [hnH]; omega)) ?_
      rw [hnH]
      exact Qn rfl
     refine Qs 13 [8, 12] rfl rfl rfl rfl (by kernel_rfl) rfl ?_ ?_
     ·refine Qx rfl rfl rfl (Qp (by omega) (by omega)) ?_
      exact Qn rfl
     exact AllF.nil
    ·refine XT rfl rfl (by rfl) (by rfl) (by rfl) (by rfl) ?_
     intro g4
     refine WpL.nil ⟨rfl, rfl, ?_⟩
     apply Xb [] [0, 8, 9, 10, 11, 12, 13] [0] [8, 9, 10] [8, 9, 10, 93, 94, 95, 96, 97, 98] (.inl ⟨_, by repeat' constructor⟩) rfl rfl rfl (by kernel_rfl) rfl (by kernel_rfl) rfl rfl
     ·exact AllF.nil
     ·refine WpL.ent (Ent.own_nil (T := 92) (s := 1) (Ent.refl _)) ?_
      refine Yc (Zn ((at0 + y * (Qy h.K h.W.toNat (Qi h.M)) : Nat) : Int)) rfl rfl rfl (by repeat' constructor) rfl (by rfl) (by rfl) (by rfl) (by rfl) (by omega) (by omega) ?_
      intro a92 c92
      refine WpL.nil ⟨rfl, rfl, ?_⟩
      apply X4 [⟨16, 8, _, [0, 1, 2, 3, 4, 5, 6, 7, 14, 15], false⟩, ⟨17, 9, _, [0, 1, 2, 3, 4, 5, 6, 7, 8, 9, 10, 11, 12, 13, 14, 15, 16], false⟩, ⟨18, 10, _, [0, 1, 2, 3, 4, 5, 6, 7, 8, 9, 10, 11, 12, 13, 14, 15, 16, 17], false⟩] 19 (by kernel_rfl) (.inl ⟨_, by repeat' constructor⟩) rfl rfl
      ·refine Ql 16 [0, 1, 2, 3, 4, 5, 6, 7, 14, 15] rfl rfl rfl rfl (by kernel_rfl) rfl ?_ ?_
       ·exact Qd rfl rfl (Qn rfl)
       refine Ql 17 [0, 1, 2, 3, 4, 5, 6, 7, 8, 9, 10, 11, 12, 13, 14, 15, 16] rfl rfl rfl rfl (by kernel_rfl) rfl ?_ ?_
       ·exact Qd rfl rfl (Qn rfl)
       refine Ql 18 [0, 1, 2, 3, 4, 5, 6, 7, 8, 9, 10, 11, 12, 13, 14, 15, 16, 17] rfl rfl rfl rfl (by kernel_rfl) rfl ?_ ?_
       ·exact Qd rfl rfl (Qn rfl)
       exact AllF.nil
      ·refine Qg ?_
       apply RetQ.mk
       ·exact (Res.three rfl rfl rfl rfl)
       ·exact ⟨_, _, (out ++ [Zn ((at0 + y * (Qy h.K h.W.toNat (Qi h.M)) : Nat) : Int)]), ((at0 + y * (Qy h.K h.W.toNat (Qi h.M)) : Nat) : Int), 0, fun l0 l1 l2 imgs => rw_done (hI l0 l1 l2 imgs) (by omega), ⟨by omega, by omega⟩, (by (simp only [List.length_append, List.length_cons, List.length_nil]; omega)), ⟨fun _ => ⟨_, out, rfl, hkk⟩, fun q => absurd rfl q⟩, rfl, rfl⟩
       ·exact Take.ent' (by repeat' constructor)


theorem rraw_spec (A0 : HP) (a0 : Option Addr) (c0 : Nat) (bs : List Int) (hA : RdsL [A0] a0 (XY bs)) (hbs : ∀ x ∈ bs, 0 ≤ x ∧ x ≤ 255) (hc0 : bs.length ≤ c0) (hbl : bs.length ≤ 100000000000) (at0 : Nat) (hat : at0 ≤ bs.length) (h : HS) (hf : Yo h) (hK : 4 ≤ h.K) (fin : Bool) : Fn Tryz.prog 59 #[.slice a0 bs.length c0, .int .i64 (at0 : Int), .agg #[.int .i64 h.K, .int .i64 h.W, .int .i64 h.H, .int .i64 h.M], .bool fin] [A0] (fun v l => ∃ a c out to f, (∀ l0 l1 l2 imgs, Y4 l0 l1 l2 fin h (.rw (rw0 h)) bs at0 imgs out to f) ∧ ((at0 : Int) ≤ to ∧ to ≤ bs.length) ∧ (out.length : Int) ≤ to - at0 + 2 ∧ ((f = 0 → ∃ t rows, out = rows ++ [Zn t] ∧ ∀ x ∈ rows, evRw x) ∧ (f ≠ 0 → ∀ x ∈ out, evRw x)) ∧ v = .tuple #[.slice a out.length c, .int .i64 to, .int .i64 f] ∧ l = [esR a c out, A0]) := by
  have hM := hf.2.2
  unfold XN at hM
  have q := rraw_open A0 a0 c0 bs hA hbs hc0 hbl at0 hat h hf hK fin
  rw [show ((h.W.toNat : Nat) : Int) = h.W by omega, show ((h.H.toNat : Nat) : Int) = h.H by omega] at q
  exact q

end Go.Proofs.YtggamdlpiejbiaaGreat
namespace Go.Proofs.YtggamdlpiejbiaaGreat
open Go.RowKit Go.Shelf

structure Img where
  (c m w h : Int) (px : List Int)
def im0 : Img := ⟨0, 0, 0, 0, []⟩
def Vg (st : Img × List Img) (x : Evt) : Img × List Img :=
  if x.k = 1 then (⟨x.c, x.m, x.w, x.h, []⟩, st.2) else if x.k = 2 then (⟨st.1.c, st.1.m, st.1.w, st.1.h, st.1.px ++ x.row⟩, st.2) else if x.k = 3 then (st.1, st.2 ++ [st.1]) else st
def imgsOf (es : List Evt) : List Img := (es.foldl Vg (im0, [])).2
theorem im_rows : ∀ (rows : List (Evt × Int)) (m : Img) (L : List Img), (∀ x ∈ rows, x.1.k = 2) → (rows.map (·.1)).foldl Vg (m, L) = (⟨m.c, m.m, m.w, m.h, m.px ++ rows.flatMap fun x => x.1.row⟩, L)
  | [], m, L, _ => by simp
  | x :: rows, m, L, h => by
    have hx := h x (by simp)
    have e : Vg (m, L) x.1 = (⟨m.c, m.m, m.w, m.h, m.px ++ x.1.row⟩, L) := by unfold Vg; rw [if_neg (by omega), if_pos hx]
    rw [List.map_cons, List.foldl_cons, e, im_rows rows _ L fun y hy => h y (by simp [hy])]
    simp
def imOf (h : HS) (out : List (Evt × Int)) : Img := ⟨QT h.K, h.M, h.W, h.H, out.flatMap fun x => x.1.row⟩
/-- An image that is done. -/
theorem im_body {h : HS} {es out rows : List (Evt × Int)} {t n : Int} (ho : out = rows ++ [Zn t]) (hr : ∀ x ∈ rows, x.1.k = 2) : imgsOf ((es ++ (YQ h, n) :: out).map (·.1)) = imgsOf (es.map (·.1)) ++ [imOf h out] := by
  subst ho
  unfold imgsOf imOf
  rw [List.map_append, List.foldl_append, List.map_cons, List.foldl_cons]
  generalize (es.map (·.1)).foldl Vg (im0, []) = st
  obtain ⟨m, L⟩ := st
  have e : Vg (m, L) (YQ h, n).1 = (⟨QT h.K, h.M, h.W, h.H, []⟩, L) := rfl
  rw [e, List.map_append, List.foldl_append, im_rows rows _ L hr]
  simp [Vg, Zn]
theorem hdRun_pos (l0 l1 l2 : Int) (h : HS) (c : Int) (bs : List Int) (told : Int) : told + 1 ≤ (Q9 l0 l1 l2 h (c :: bs) told).2 := by
  rw [Q9]
  split
  · exact Int.le_refl _
  · have : ∀ (bs : List Int) (h : HS) (n : Int), n ≤ (Q9 l0 l1 l2 h bs n).2 := by
      intro bs
      induction bs with
      | nil => intro h n; exact Int.le_refl _
      | cons c bs ih =>
        intro h n
        rw [Q9]
        split
        · simp only; omega
        · have := ih (QU l0 l1 l2 h c) (n + 1)
          omega
    exact this _ _ _
theorem hdRun_shift (l0 l1 l2 : Int) : ∀ (bs : List Int) (h : HS) (n t : Int), Q9 l0 l1 l2 h bs (n + t) = ((Q9 l0 l1 l2 h bs n).1, (Q9 l0 l1 l2 h bs n).2 + t)
  | [], h, n, t => rfl
  | c :: bs, h, n, t => by
    rw [Q9, Q9]
    split
    · simp only; congr 1; omega
    · have := hdRun_shift l0 l1 l2 bs (QU l0 l1 l2 h c) (n + 1) t
      rw [show n + 1 + t = n + t + 1 by omega] at this
      exact this
/-- What a head's parse says of the reader. -/
theorem run_parse {l0 l1 l2 : Int} (hL : LimO l0 l1 l2) {bs : List Int} {at_ : Nat} {imgs : Int} {hd : Option HS} {c : Int} {r : List Int} (hr : bs.drop at_ = c :: r) (hb : Q8 c = false) {K W H M n e : Int} (hP : ((K, W, H, M), n, e) = hdP l0 l1 l2 (bs.drop at_)) :
    (1 ≤ n ∧ at_ + n ≤ bs.length ∧ (e = 0 ∨ e = 6 ∨ (2 ≤ e ∧ e ≤ 4))) ∧
    (e = 6 → at_ + n = bs.length ∧ ∃ h', h'.e = 9 ∧ QF l0 l1 l2 ⟨hd, 0, .no, at_, imgs, false, 0⟩ (bs.drop at_) = (⟨some h', 1, .no, bs.length, imgs, false, 0⟩, [])) ∧
    (e ≠ 0 → e ≠ 6 → ∃ h', QF l0 l1 l2 ⟨hd, 0, .no, at_, imgs, false, 0⟩ (bs.drop at_) = (⟨some h', 1, .no, at_ + n, imgs, false, e⟩, [])) ∧
    (e = 0 → ∃ h', Yo h' ∧ h'.K = K ∧ h'.W = W ∧ h'.H = H ∧ h'.M = M ∧ QF l0 l1 l2 ⟨hd, 0, .no, at_, imgs, false, 0⟩ (bs.drop at_) = XR [(YQ h', at_ + n)] (QF l0 l1 l2 ⟨some h', 2, bd0 h', at_ + n, imgs, false, 0⟩ (bs.drop (at_ + n).toNat))) := by
  have hlen : (bs.drop at_).length = bs.length - at_ := List.length_drop
  have hl2 : 1 ≤ (bs.drop at_).length := by rw [hr]; simp
  have hrun := run_head l0 l1 l2 hL imgs (bs.drop at_) hd0 at_ (hdJ0 l0 l1 l2)
  have hfirst := run_first l0 l1 l2 (hd := hd) (told := at_) (imgs := imgs) (bs := r) hb
  rw [← hr] at hfirst
  have hsh := hdRun_shift l0 l1 l2 (bs.drop at_) hd0 0 at_
  rw [Int.zero_add] at hsh
  have hpos := hdRun_pos l0 l1 l2 hd0 c r 0
  rw [← hr] at hpos
  rw [Zs] at hP
  rw [hsh] at hrun
  generalize Q9 l0 l1 l2 hd0 (bs.drop at_) 0 = q at hP hrun hpos
  obtain ⟨h', m⟩ := q
  dsimp only at hP hrun hpos
  rw [hfirst]
  obtain ⟨hrun, hr1, hr2⟩ := hrun
  unfold ZL at hP
  dsimp only at hP
  rcases hrun with ⟨g1, g2, g3⟩ | ⟨g1, g2, g3, g4⟩ | ⟨g1, g2⟩
  · rw [if_neg (by omega), if_neg (by omega)] at hP
    cases hP
    refine ⟨⟨by omega, by omega, .inr (.inl rfl)⟩, fun _ => ⟨by omega, h', g2, ?_⟩, fun _ q => absurd rfl q, fun q => absurd q (by decide)⟩
    rw [g3, show (at_ : Int) + (((bs.drop at_).length : Nat) : Int) = bs.length by omega]
  · rw [if_neg (by omega), if_pos g1] at hP
    cases hP
    refine ⟨⟨by omega, by omega, .inr (.inr ⟨g2, g3⟩)⟩, fun q => by omega, fun _ _ => ⟨h', ?_⟩, fun q => by omega⟩
    rw [g4, Int.add_comm]
  · rw [if_pos g1.1] at hP
    cases hP
    refine ⟨⟨by omega, by omega, .inl rfl⟩, fun q => absurd q (by decide), fun q => absurd rfl q, fun _ => ⟨h', g1, rfl, rfl, rfl, rfl, ?_⟩⟩
    rw [g2, List.drop_drop, show (n + (at_ : Int) : Int) = at_ + n by omega, show at_ + ((at_ : Int) + n - at_).toNat = ((at_ : Int) + n).toNat by omega]
theorem psEnd_ah {hd : Option HS} {told imgs : Int} (h : ∀ x, hd = some x → x.e = 0) : Zo ⟨hd, 0, .no, told, imgs, false, 0⟩ = (⟨hd, 0, .no, told, imgs, true, 0⟩, []) := by
  refine (if_neg (by simp)).trans (if_neg (fun q => ?_))
  obtain ⟨q1, q2⟩ := q
  cases hd with
  | none => cases q1
  | some x => have := h x rfl; simp [this] at q2
theorem psEnd_hd {h : HS} {told imgs : Int} (h9 : h.e = 9) : Zo ⟨some h, 1, .no, told, imgs, false, 0⟩ = (⟨some h, 1, .no, told, imgs, true, 6⟩, []) := (if_neg (by simp)).trans (if_pos ⟨rfl, h9⟩)

def X9 (es : List (Evt × Int)) : List Img := imgsOf (es.map (·.1))
theorem imsO_body {h : HS} {es out rows : List (Evt × Int)} {t n : Int} (ho : out = rows ++ [Zn t]) (hr : ∀ x ∈ rows, x.1.k = 2) : X9 (es ++ [(YQ h, n)] ++ out) = X9 es ++ [imOf h out] := by
  unfold X9
  rw [show es ++ [(YQ h, n)] ++ out = es ++ (YQ h, n) :: out by simp]
  exact im_body ho hr
theorem fin_ah {fin : Bool} {hd : Option HS} {told imgs : Int} (h : ∀ x, hd = some x → x.e = 0) : YT fin ((⟨hd, 0, .no, told, imgs, false, 0⟩ : PS), []) = ((⟨hd, 0, .no, told, imgs, fin, 0⟩ : PS), []) := by
  cases fin with
  | false => rfl
  | true => simp [YT, psEnd_ah h]
theorem Y0 {h : HS} {es out : List (Evt × Int)} {n : Int} (hr : ∀ x ∈ out, x.1.k = 2) : X9 (es ++ [(YQ h, n)] ++ out) = X9 es := by
  unfold X9 imgsOf
  rw [List.map_append, List.map_append, List.foldl_append, List.foldl_append]
  generalize (es.map (·.1)).foldl Vg (im0, []) = st
  obtain ⟨m, L⟩ := st
  have e : Vg (m, L) (YQ h, n).1 = (⟨QT h.K, h.M, h.W, h.H, []⟩, L) := rfl
  rw [List.map_cons, List.foldl_cons, e, List.map_nil, List.foldl_nil, im_rows out _ L hr]

end Go.Proofs.YtggamdlpiejbiaaGreat
namespace Go.Proofs.YtggamdlpiejbiaaGreat
open Go.RowKit Go.Shelf


def imC (x : Img) (a : Option Addr) (c : Nat) : List Value := [.int .i64 x.c, .int .i64 x.m, .int .i64 x.w, .int .i64 x.h, .slice a x.px.length c]
def imR (a : Option Addr) (c : Nat) (es : List Img) : HP := rcR 71 5 92 imC Img.px a c es
theorem rParse_det (a b d : Int) (s : ByteArray) (hsz : s.size ≤ 1000000000000) : Fn Tryz.prog 56 #[.string s, .agg #[.int .i64 a, .int .i64 b, .int .i64 d]] [] (fun v l => v = .tuple #[.agg #[.int .i64 (hdP (QG a) (QH b) (QI d) (QZ s)).1.1, .int .i64 (hdP (QG a) (QH b) (QI d) (QZ s)).1.2.1, .int .i64 (hdP (QG a) (QH b) (QI d) (QZ s)).1.2.2.1, .int .i64 (hdP (QG a) (QH b) (QI d) (QZ s)).1.2.2.2], .int .i64 (hdP (QG a) (QH b) (QI d) (QZ s)).2.1, .int .i64 (hdP (QG a) (QH b) (QI d) (QZ s)).2.2] ∧ l = []) := by
  refine (rParse_spec a b d s hsz).mono ?_
  rintro v l ⟨K, W, H, M, n, e, hP, rfl, rfl⟩
  rw [← hP]
  exact ⟨_, ⟨rfl, rfl⟩, Ent.refl _⟩
theorem eaC_one (l : List ((Evt × Int) × Option Addr × Nat)) : ∀ u ∈ l.flatMap (fun r => eaC r.1 r.2.1 r.2.2), u.oneCell' = true := by
  intro u hu
  obtain ⟨x, _, hx⟩ := List.mem_flatMap.1 hu
  simp only [eaC, List.mem_cons, List.not_mem_nil, or_false] at hx
  rcases hx with rfl | rfl | rfl | rfl | rfl | rfl | rfl <;> rfl
theorem eaC_len (l : List ((Evt × Int) × Option Addr × Nat)) : (l.flatMap (fun r => eaC r.1 r.2.1 r.2.2)).length = l.length * 7 := by
  induction l with
  | nil => rfl
  | cons x l ih => rw [List.flatMap_cons, List.length_append, ih, List.length_cons, Nat.add_mul]; simp [eaC]; omega
theorem Z2 {a : Option Addr} {c m : Nat} {esA out : List (Evt × Int)} {lE lO : List ((Evt × Int) × Option Addr × Nat)} {F : List HP} (hE : lE.map (·.1) = esA) (hO : lO.map (·.1) = out) (hm : m = (esA ++ out).length) :
    Ent (own 53 7 a c m (lE.flatMap (fun r => eaC r.1 r.2.1 r.2.2) ++ lO.flatMap (fun r => eaC r.1 r.2.1 r.2.2)) :: Zc (lE.map (fun r => own 92 1 r.2.1 r.2.2 (Zk r.1).length (XG (Zk r.1)))) :: Zc (lO.map (fun r => own 92 1 r.2.1 r.2.2 (Zk r.1).length (XG (Zk r.1)))) :: F) (esR a c (esA ++ out) :: F) := by
  subst hm
  refine Ent.trans (Ent.cons Ent.many_app) ?_
  refine Ent.exs (lE ++ lO) (Ent.pur (by rw [List.map_append, hE, hO]) ?_)
  rw [List.flatMap_append, List.map_append]
  exact Ent.refl _
structure RdZ where
  (i : Nat) (px : List Int) (aM : Option Addr) (cM : Nat)
theorem flat_take {out : List (Evt × Int)} {i : Nat} (h : i < out.length) : ((out.take i).flatMap fun x => x.1.row) ++ out[i].1.row = (out.take (i + 1)).flatMap fun x => x.1.row := by
  rw [List.take_succ_eq_append_getElem h, List.flatMap_append]; simp
structure RdY where
  (at_ : Nat) (hd : Option HS) (es : List (Evt × Int)) (aL : Option Addr) (cL : Nat) (aI : Option Addr) (cI : Nat)

end Go.Proofs.YtggamdlpiejbiaaGreat
