/- Walks and plain laws, a part of the proof of ImageCuts: every input that the law's guards let in, no condition beside. -/
import Derived.Test.YtggamdlpiejbiaaGreatM14
namespace Go.Proofs.YtggamdlpiejbiaaGreat
open Go.RowKit Go.Shelf


structure WoX where
  (ws : List ByteArray) (a : Option Addr) (c : Nat)
def wsOf (p : Int) : List ByteArray := (Qp p).map fun x => strOfNums (XO x.toNat)
theorem wsOf_bytes (p : Int) : (wsOf p).map QJ = (Qp p).map fun x => XO x.toNat := by
  simp only [wsOf, List.map_map]
  exact List.map_congr_left fun x _ => ZN _
theorem joinB_one {xs : List Int} (h : xs.length = 1) (h0 : 0 < xs.length) : X0 xs = XO (xs[0]).toNat := by
  match xs, h with
  | [x], _ => rfl
theorem pxs_sub (px : List Int) (L H : Nat) : ((XQ px).drop (L * 1)).take ((H - L) * 1) = XQ ((px.drop L).take (H - L)) := by simp [XQ, List.map_take, List.map_drop]
theorem sub_at {px : List Int} {L n j : Nat} (hj : j < ((px.drop L).take n).length) (h : L + j < px.length) : ((px.drop L).take n)[j] = px[L + j] := by simp

set_option maxHeartbeats 4000000 in
theorem Write_ok (A0 : HP) (a0 : Option Addr) (c0 : Nat) (px : List Int) (hA : RdsL [A0] a0 (XQ px)) (hr : ∀ p ∈ px, 0 ≤ p ∧ p < 18446744073709551616) (_hl : px.length ≤ 300000000) (hc : px.length ≤ c0) (K M : Int) (Wn Hn : Nat) (hP : Zq K (Wn : Int) (Hn : Int) M) : Fn Tryz.prog 89 #[.slice a0 px.length c0, .agg #[.int .i64 K, .int .i64 (Wn : Int), .int .i64 (Hn : Int), .int .i64 M]] [A0] (fun v l => ∃ s e, v = .tuple #[.string s, .int .i64 e] ∧ ((WrP K (Wn : Int) (Hn : Int) M px ∧ e = 0 ∧ QJ s = ZI K (Wn : Int) 0 px ∧ s.size ≤ px.length * 20) ∨ (¬ WrP K (Wn : Int) (Hn : Int) M px ∧ e = 1 ∧ s = ⟨#[]⟩)) ∧ l = [A0]) := by
 have hP2 := hP.1
 unfold XG at hP2
 have hK4 := hP.2
 have hWH : Wn * Hn ≤ 4096 * 65536 := Nat.mul_le_mul (by omega) (by omega)
 have hch := chK_or K
 have hWHi : (Wn : Int) * (Hn : Int) = ((Wn * Hn : Nat) : Int) := by push_cast; rfl
 refine Ql (vs := [.slice a0 px.length c0, .agg #[.int .i64 K, .int .i64 (Wn : Int), .int .i64 (Hn : Int), .int .i64 M]]) Tryz.func89 rfl Tryz.ntmps89 rfl (Qb (Qa (Q2 rfl rfl rfl ?_)))
 intro g1
 refine Qd rfl rfl (Qd rfl rfl (WpL.nil (Qb (Qa ?_))))
 refine Qw (vs := [_, _, _, _]) rfl rfl rfl (by rfl) ?_
 refine Qi rfl rfl (by repeat' constructor) (XT _ _ _ _ (by omega)) ?_
 rintro _ _ ⟨rfl, rfl⟩
 simp only [Qs]
 rw [show (if K % 3 = 0 then (3 : Int) else 1) = QR K from rfl]
 refine XH rfl ?_
 intro gF
 refine QC rfl rfl rfl (by rfl) rfl ?_
 refine WpL.nil (Qb (Qa (s_mkf rfl (fun a hh => Ys hh _ _ rfl) ?_)))
 refine Qd rfl rfl (WpL.nil (Qb (Qb (Qa ?_))))
 refine Qw (vs := [_, _, _, _]) rfl rfl rfl (by rfl) ?_
 refine Qi rfl rfl (by repeat' constructor) (New_spec _ _ _ _) ?_
 intro v0 m0 hN0
 rcases hN0 with ⟨hP', gR, rfl, rfl⟩ | ⟨hP', rfl, rfl⟩
 ·simp only [Qs]
  refine Qc rfl rfl (QB rfl rfl rfl (QB rfl rfl rfl (Qd rfl rfl (Qd rfl rfl (WpL.nil (Qb (Qa (Qc rfl rfl (Xq rfl rfl rfl (Qc rfl rfl (Qv (dj := 30) rfl (by decide) ?_)))))))))))
  refine Qf rfl rfl (Qc rfl rfl (Qf rfl rfl (QO rfl rfl (Qf rfl rfl (Qk (o2 := 1) rfl rfl rfl (Qf rfl rfl (Qn rfl rfl (by rfl) ?_)))))))
  refine Qf rfl rfl (Qk (o2 := 2) rfl rfl rfl (Qf rfl rfl (Qn rfl rfl (by rfl) ?_)))
  refine Qf rfl rfl (Xv rfl rfl rfl (Qo (by omega) (by omega)) ?_)
  rw [hWHi]
  refine Qf rfl rfl (Xq rfl rfl rfl (Qt rfl rfl rfl (Qc rfl rfl (QN rfl rfl rfl (fun hg2 => ?_) (fun hg2 => ?_)))))
  ·have hg2 := of_decide_eq_false hg2
   refine Qc rfl rfl (Qf rfl rfl (Qc rfl rfl (Qf rfl rfl (Qi rfl rfl (by repeat' constructor) (ContainsOdd_spec A0 a0 c0 px hA hr (by omega) gF (QR K) M) ?_))))
   rintro _ _ ⟨rfl, rfl⟩
   simp only [Qs]
   refine Qt rfl rfl rfl (WpL.nil (Qj rfl (fun hc2 => ?_) (fun hc2 => ?_)))
   ·refine Qb (Qa (Qd rfl rfl (Qd rfl rfl (WpL.nil (Qh ?_)))))
    apply RetQ.mk
    ·exact (QM rfl rfl rfl)
    ·exact ⟨_, _, rfl, .inr ⟨fun h => hc2 h.2.2, rfl, rfl⟩, rfl⟩
    ·exact Take.ent' (by repeat' constructor)
   ·have hfit : ∀ p ∈ px, Yw p (QR K) M := Classical.not_not.1 hc2
    have hpl : px.length = Wn * Hn := by omega
    have hWP : WrP K (Wn : Int) (Hn : Int) M px := ⟨hP, by rw [hpl]; push_cast; rfl, hfit⟩
    have hun : ∀ p ∈ px, Qp p ≠ [] := fun p hp e => by have h1 := (hfit p hp).2.1; rw [e] at h1; simp at h1; omega
    have hne : px ≠ [] := fun e => by have h1 := Nat.mul_pos (show 0 < Wn by omega) (show 0 < Hn by omega); rw [e] at hpl; simp at hpl; omega
    refine Wp.skip (Qb (Qa (XH rfl ?_)))
    intro gB
    refine WpL.nil (Qb (Qb (Qa (Qk (o2 := 0) rfl rfl rfl (Qn rfl rfl (by rfl) ?_)))))
    refine QH rfl rfl rfl (WpL.nil (Qj rfl (fun h1 => ?_) (fun h1 => ?_)))
    ·have hK1 : K = 1 := by omega
     have hch1 : QR K = 1 := by rw [hK1]; rfl
     refine Qb (Qb (Qa (Qk (o2 := 2) rfl rfl rfl (Qn rfl rfl (by rfl) ?_))))
     refine Qc rfl rfl (WpL.nil (Wp.block ?_))
     refine Wp.loopD (σ := WbX) (fun x => x.k ≤ Hn ∧ x.bs = ZI K (Wn : Int) 0 (px.take (x.k * Wn)) ∧ (x.p = none ∨ x.p = some ⟨gB, 0, none⟩)) [11, 12, 13, 14, 50, 51, 52, 53, 54, 55, 56, 57, 58, 59, 60, 61, 62, 63, 64, 65, 66, 67, 68, 69, 70, 71, 72, 73, 74, 75, 76, 77, 78, 79, 80, 81, 82, 83, 84, 85, 86, 87, 88, 89, 90, 91, 92, 93, 94] (fun x => [(50, .int .i64 (x.k : Int))]) (fun x => [QK gB [.pointer x.p, .slice x.a x.bs.length x.c] 207, QX 5 1 x.a x.c x.bs.length (Xt x.bs), QK gF [.int .i64 (QR K), .int .i64 M] 48, QK g1 [.int .i64 K, .int .i64 (Wn : Int), .int .i64 (Hn : Int), .int .i64 M] 98, A0]) (fun x => Hn - x.k) ⟨0, [], none, none, 0⟩ ?_ (by repeat (first | exact FrLe.nil | refine FrLe.cons rfl ?_)) ?_ ?_
     ·exact ⟨Nat.zero_le _, by simp only; rw [Nat.zero_mul, List.take_zero]; rfl, .inl rfl⟩
     ·exact (Ent.own_nil (T := 5) (s := 1) (Ent.refl _)).trans (Take.ent' (by repeat' constructor))
     ·rintro ⟨k, bs, p, a, c⟩ ⟨hk, hbs, hp⟩
      dsimp only at hk hbs hp ⊢
      refine Qb (Qa (Q8 rfl rfl rfl (WpL.nil (Qb (Qj rfl (fun h3 => ?_) (fun h3 => ?_))))))
      ·have hlt : k < Hn := by omega
       have hkW : (k + 1) * Wn = k * Wn + Wn := by rw [Nat.add_mul, Nat.one_mul]
       have hkW2 : (k + 1) * Wn ≤ Hn * Wn := Nat.mul_le_mul_right _ hlt
       rw [Nat.mul_comm Hn Wn] at hkW2
       have ei1 : (k : Int) * (Wn : Int) = ((k * Wn : Nat) : Int) := by push_cast; rfl
       have ei2 : ((k : Int) + 1) * (Wn : Int) = (((k + 1) * Wn : Nat) : Int) := by push_cast; rfl
       refine Wp.skip (Qb (Wp.block ?_))
       refine Qb (Qa (Qc rfl rfl (Qd rfl rfl (WpL.nil (Qb (Qa (Qc rfl rfl (Qc rfl rfl (Qk (o2 := 1) rfl rfl rfl (Qn rfl rfl (by rfl) ?_))))))))))
       refine Xv rfl rfl rfl (Qo (by omega) (by omega)) ?_
       rw [ei1]
       refine Qc rfl rfl (QA rfl rfl rfl (Qo (by omega) (by omega)) ?_)
       refine Qk (o2 := 1) rfl rfl rfl (Qn rfl rfl (by rfl) ?_)
       refine Xv rfl rfl rfl (Qo (by omega) (by omega)) ?_
       rw [ei2]
       refine Qc rfl rfl (QA rfl rfl rfl (Qo (by omega) (by omega)) ?_)
       refine Qk (o2 := 1) rfl rfl rfl (Qn rfl rfl (by rfl) ?_)
       refine Xv rfl rfl rfl (Qo (by omega) (by omega)) ?_
       rw [ei2]
       refine s_sll_lhm (L := k * Wn) (H := (k + 1) * Wn) (M := (k + 1) * Wn) rfl rfl rfl rfl rfl rfl rfl rfl (by omega) (by omega) (by omega) ?_
       refine Qd rfl rfl (WpL.nil (Qb (Qa (Qc rfl rfl (QO rfl rfl (Qc rfl rfl (WpL.nil (Wp.block ?_))))))))
       have hRw := hA.sla (k * Wn) ((k + 1) * Wn) ((k + 1) * Wn) 1 (Nat.le_refl _)
       rw [pxs_sub] at hRw
       rw [show (k + 1) * Wn - k * Wn = Wn by omega] at hRw ⊢
       have hrl : ((px.drop (k * Wn)).take Wn).length = Wn := by rw [List.length_take, List.length_drop]; omega
       refine Wp.loopD (σ := WbX) (fun y => y.k ≤ Wn ∧ y.bs = ZI K (Wn : Int) 0 (px.take (k * Wn + y.k)) ∧ (y.p = none ∨ y.p = some ⟨gB, 0, none⟩)) [13, 14, 71, 72, 73, 74, 75, 76, 77, 78, 79, 80, 81, 82, 83, 84, 85, 86, 87, 88, 89, 90, 91, 92, 93] (fun y => [(71, .int .i64 (y.k : Int))]) (fun y => [QK gB [.pointer y.p, .slice y.a y.bs.length y.c] 207, QX 5 1 y.a y.c y.bs.length (Xt y.bs), QK gF [.int .i64 (QR K), .int .i64 M] 48, QK g1 [.int .i64 K, .int .i64 (Wn : Int), .int .i64 (Hn : Int), .int .i64 M] 98, A0]) (fun y => Wn - y.k) ⟨0, bs, p, a, c⟩ ?_ (by repeat (first | exact FrLe.nil | refine FrLe.cons rfl ?_)) ?_ ?_
       ·exact ⟨Nat.zero_le _, hbs, hp⟩
       ·exact Ent.refl _
       ·clear hbs hp
        rintro ⟨j, bs, p, a, c⟩ ⟨hj, hbs, hp⟩
        dsimp only at hj hbs hp ⊢
        refine Qb (Qa (Q8 rfl rfl rfl (WpL.nil (Qb (Qj rfl (fun h5 => ?_) (fun h5 => ?_))))))
        ·have hlt2 : k * Wn + j < px.length := by omega
         have hlr : j < ((px.drop (k * Wn)).take Wn).length := by omega
         have hpb := hr _ (List.getElem_mem hlt2)
         have hft := hfit _ (List.getElem_mem hlt2)
         have hul : (Qp (px[k * Wn + j]'hlt2)).length = 1 := by have := hft.2.1; rw [hch1] at this; omega
         have hu0 : 0 < (Qp (px[k * Wn + j]'hlt2)).length := by omega
         have hub := YT (px[k * Wn + j]'hlt2) _ (List.getElem_mem hu0)
         have hdl := digs_len5 hub.2
         have hbl := VI (K := K) (W := (Wn : Int)) (px.take (k * Wn + j)) 0
         rw [← hbs, List.length_take] at hbl
         have hmod : ((k * Wn + j : Nat) : Int) % (Wn : Int) = (j : Int) := by push_cast; exact mod_row (by omega) (by omega)
         have hjb : X0 (Qp (px[k * Wn + j]'hlt2)) = (XO ((Qp (px[k * Wn + j]'hlt2))[0]'hu0).toNat) := joinB_one hul hu0
         have hstep : ∀ b, b = (bs ++ X0 (Qp (px[k * Wn + j]'hlt2))) ++ (if nlB K (Wn : Int) (k * Wn + j) = true then [10] else []) → b = ZI K (Wn : Int) 0 (px.take (k * Wn + (j + 1))) := fun b hb => by rw [hb, ← Nat.add_assoc, wr_take hlt2, hbs, List.append_assoc]
         rw [hjb] at hstep
         refine Wp.skip (Qb (Wp.block ?_))
         refine Qb (Qa (Qc rfl rfl (Xg j rfl rfl rfl hRw (by exact Take.ent' (by repeat' constructor)) rfl (by omega) (by rw [Yh]; omega) ?_)))
         refine Xk (v := (.int .u64 (px[k * Wn + j]'hlt2))) rfl rfl hRw (by exact Take.ent' (by repeat' constructor)) ((Y6 _ hlr).trans (by rw [sub_at hlr hlt2])) ?_
         refine Qd rfl rfl (Qd rfl rfl (WpL.nil (Qb (Qa (Qc rfl rfl (Qi rfl rfl (by repeat' constructor) (Yq _ hpb.1 hpb.2) ?_))))))
         rintro _ _ ⟨A1, a1, c1, rfl, rfl, hA1, hn1⟩
         simp only [Qs]
         refine Xg 0 rfl rfl rfl hA1 (by exact Take.ent' (by repeat' constructor)) rfl (by omega) (by rw [Xf]; omega) ?_
         refine Xk rfl rfl hA1 (by exact Take.ent' (by repeat' constructor)) (XA _ hu0) ?_
         refine Qi rfl rfl (by repeat' constructor) (ZJ _ hub.1 (by omega)) ?_
         rintro _ _ ⟨rfl, rfl⟩
         simp only [Qs]
         refine Qi rfl rfl (by repeat' constructor) (ZV gB p a c bs hp _ (by rw [YF]; omega)) ?_
         rintro _ _ ⟨ab, cb, rfl⟩
         simp only [Qs]
         rw [ZN]
         refine WpL.nil (Qb (Qa (Qc rfl rfl (YD rfl rfl rfl (by omega) (by omega) ?_))))
         refine QH rfl rfl rfl (Qc rfl rfl (QN rfl rfl rfl (fun hg3 => ?_) (fun hg3 => ?_)))
         ·have hg3 := of_decide_eq_false hg3
          refine Qc rfl rfl (Qf rfl rfl (Qk (o2 := 1) rfl rfl rfl (Qf rfl rfl (Qn rfl rfl (by rfl) ?_))))
          refine Qf rfl rfl (Yp rfl rfl rfl (Qo (by omega) (by omega)) ?_)
          refine Qf rfl rfl (QH rfl rfl rfl (Qt rfl rfl rfl (WpL.nil (Qj rfl (fun h6 => ?_) (fun h6 => ?_)))))
          ·refine Qa (Qi rfl rfl (by repeat' constructor) (BWriteByte_spec gB _ ab cb _ (.inr rfl) 10 (by rw [List.length_append]; omega)) ?_)
           rintro _ _ ⟨ab2, cb2, rfl⟩
           simp only [Qs]
           refine WpL.nil (Qa (QA rfl rfl rfl (Qo (by omega) (by omega)) ?_))
           refine Qc rfl rfl (WpL.nil (Qq (⟨j + 1, bs ++ (XO ((Qp (px[k * Wn + j]'hlt2))[0]'hu0).toNat) ++ [10], some ⟨gB, 0, none⟩, ab2, cb2⟩ : WbX) ?_ ?_ (by ((repeat (first | exact Top.refl | refine Top.push rfl ?_)); done)) (by repeat (first | exact FrLe.nil | refine FrLe.cons rfl ?_)) ?_))
           ·exact ⟨by simp only; omega, hstep _ (nl_t (.inr (.inl (by rw [hmod]; omega))) rfl), .inr rfl⟩
           ·simp only; omega
           ·exact Take.ent' (by repeat' constructor)
          ·refine Wp.skip (Qa (QA rfl rfl rfl (Qo (by omega) (by omega)) ?_))
           refine Qc rfl rfl (WpL.nil (Qq (⟨j + 1, bs ++ (XO ((Qp (px[k * Wn + j]'hlt2))[0]'hu0).toNat), some ⟨gB, 0, none⟩, ab, cb⟩ : WbX) ?_ ?_ (by ((repeat (first | exact Top.refl | refine Top.push rfl ?_)); done)) (by repeat (first | exact FrLe.nil | refine FrLe.cons rfl ?_)) ?_))
           ·exact ⟨by simp only; omega, hstep _ (nl_f (by omega) (by rw [hmod]; omega) (by rw [hmod]; omega) rfl), .inr rfl⟩
           ·simp only; omega
           ·exact Take.ent' (by repeat' constructor)
         ·have hg3 := of_decide_eq_true hg3
          refine Qe rfl rfl rfl (by decide) (Qe rfl rfl rfl (by decide) (Qe rfl rfl rfl (by decide) (Qe rfl rfl rfl (by decide) (Qr rfl rfl rfl (WpL.nil (Xn rfl (Qa (Qi rfl rfl (by repeat' constructor) (BWriteByte_spec gB _ ab cb _ (.inr rfl) 10 (by rw [List.length_append]; omega)) ?_))))))))
          rintro _ _ ⟨ab2, cb2, rfl⟩
          simp only [Qs]
          refine WpL.nil (Qa (QA rfl rfl rfl (Qo (by omega) (by omega)) ?_))
          refine Qc rfl rfl (WpL.nil (Qq (⟨j + 1, bs ++ (XO ((Qp (px[k * Wn + j]'hlt2))[0]'hu0).toNat) ++ [10], some ⟨gB, 0, none⟩, ab2, cb2⟩ : WbX) ?_ ?_ (by ((repeat (first | exact Top.refl | refine Top.push rfl ?_)); done)) (by repeat (first | exact FrLe.nil | refine FrLe.cons rfl ?_)) ?_))
          ·exact ⟨by simp only; omega, hstep _ (nl_t (.inr (.inr (by rw [hmod]; omega))) rfl), .inr rfl⟩
          ·simp only; omega
          ·exact Take.ent' (by repeat' constructor)
        ·have hjw : j = Wn := by omega
         refine QP (Qa (QA rfl rfl rfl (Qo (by omega) (by omega)) ?_))
         refine Qc rfl rfl (WpL.nil (Qq (⟨k + 1, bs, p, a, c⟩ : WbX) ?_ ?_ (by ((repeat (first | exact Top.refl | refine Top.push rfl ?_)); done)) (by repeat (first | exact FrLe.nil | refine FrLe.cons rfl ?_)) ?_))
         ·exact ⟨by simp only; omega, by simp only; rw [hbs, hjw, Nat.add_mul, Nat.one_mul], hp⟩
         ·simp only; omega
         ·exact Ent.refl _
      ·have hke : k = Hn := by omega
       rw [hke, Nat.mul_comm Hn Wn, List.take_of_length_le (by omega)] at hbs
       have hbl := VI (K := K) (W := (Wn : Int)) px 0
       have hbp := wrL_pos (K := K) (W := (Wn : Int)) hne hun 0
       have hbb := wrL_byte (K := K) (W := (Wn : Int)) px 0
       subst hbs
       refine QP (Qb (Qa (Qi rfl rfl (by repeat' constructor) (BString_spec gB c p a _ hbp (by omega) hbb) ?_)))
       rintro _ _ ⟨rfl, rfl⟩
       simp only [Qs]
       refine Qd rfl rfl (Qd rfl rfl (WpL.nil (Qh ?_)))
       apply RetQ.mk
       ·exact (QM rfl rfl rfl)
       ·exact ⟨_, _, rfl, .inl ⟨hWP, rfl, Yj hbb, by rw [YF]; omega⟩, rfl⟩
       ·exact Take.ent' (by repeat' constructor)
    ·refine Wp.skip (Qb (Qb (Qa (Qc rfl rfl (QO rfl rfl (Qc rfl rfl (WpL.nil (Wp.block ?_))))))))
     refine Wp.loopD (σ := WbX) (fun x => x.k ≤ px.length ∧ x.bs = ZI K (Wn : Int) 0 (px.take x.k) ∧ (x.p = none ∨ x.p = some ⟨gB, 0, none⟩)) [16, 17, 19, 98, 99, 100, 101, 102, 103, 104, 105, 106, 107, 108, 109, 110, 111, 112, 113, 114, 115, 116, 117, 118, 119] (fun x => [(98, .int .i64 (x.k : Int))]) (fun x => [QK gB [.pointer x.p, .slice x.a x.bs.length x.c] 207, QX 5 1 x.a x.c x.bs.length (Xt x.bs), QK gF [.int .i64 (QR K), .int .i64 M] 48, QK g1 [.int .i64 K, .int .i64 (Wn : Int), .int .i64 (Hn : Int), .int .i64 M] 98, A0]) (fun x => px.length - x.k) ⟨0, [], none, none, 0⟩ ?_ (by repeat (first | exact FrLe.nil | refine FrLe.cons rfl ?_)) ?_ ?_
     ·exact ⟨Nat.zero_le _, rfl, .inl rfl⟩
     ·exact (Ent.own_nil (T := 5) (s := 1) (Ent.refl _)).trans (Take.ent' (by repeat' constructor))
     ·rintro ⟨k, bs, p, a, c⟩ ⟨hk, hbs, hp⟩
      dsimp only at hk hbs hp ⊢
      refine Qb (Qa (Q8 rfl rfl rfl (WpL.nil (Qb (Qj rfl (fun h8 => ?_) (fun h8 => ?_))))))
      ·have hlt : k < px.length := by omega
       have hpb := hr _ (List.getElem_mem hlt)
       have hft := hfit _ (List.getElem_mem hlt)
       have hul : ((Qp px[k]).length : Int) = QR K := hft.2.1
       have hjl := joinB_len (Qp px[k]) fun x hx => (YT px[k] x hx).2
       have hbl := VI (K := K) (W := (Wn : Int)) (px.take (k)) 0
       rw [← hbs, List.length_take] at hbl
       refine Wp.skip (Qb (Wp.block ?_))
       refine Qb (Qa (Xg k rfl rfl rfl hA (by exact Take.ent' (by repeat' constructor)) rfl (by omega) (by rw [Yh]; omega) ?_))
       refine Xk rfl rfl hA (by exact Take.ent' (by repeat' constructor)) (Y6 px hlt) ?_
       refine Qd rfl rfl (WpL.nil (Qb (Qa (Qd rfl rfl (WpL.nil (Qb (Qb (Qa (Qc rfl rfl (Qi rfl rfl (by repeat' constructor) (Yq _ hpb.1 hpb.2) ?_))))))))))
       rintro _ _ ⟨A1, a1, c1, rfl, rfl, hA1, hn1⟩
       simp only [Qs]
       refine QO rfl rfl (Qc rfl rfl (WpL.nil (Wp.block ?_)))
       refine Wp.loopD (σ := WoX) (fun z => z.ws.length ≤ (Qp px[k]).length ∧ z.ws = (wsOf px[k]).take z.ws.length) [17, 19, 105, 106, 107, 108, 109, 110, 111, 112, 113, 114] (fun z => [(105, .int .i64 (z.ws.length : Int)), (17, .slice z.a z.ws.length z.c)]) (fun z => QX 9 1 z.a z.c z.ws.length (strs z.ws) :: A1 :: [QK gB [.pointer p, .slice a bs.length c] 207, QX 5 1 a c bs.length (Xt bs), QK gF [.int .i64 (QR K), .int .i64 M] 48, QK g1 [.int .i64 K, .int .i64 (Wn : Int), .int .i64 (Hn : Int), .int .i64 M] 98, A0]) (fun z => (Qp px[k]).length - z.ws.length) ⟨[], none, 0⟩ ?_ (by repeat (first | exact FrLe.nil | refine FrLe.cons rfl ?_)) ?_ ?_
       ·exact ⟨Nat.zero_le _, rfl⟩
       ·exact Ent.own_nil (T := 9) (s := 1) (Ent.refl _)
       ·rintro ⟨ws, a9, c9⟩ ⟨hw1, hw2⟩
        dsimp only at hw1 hw2 ⊢
        refine Qb (Qa (Q8 rfl rfl rfl (WpL.nil (Qb (Qj rfl (fun h10 => ?_) (fun h10 => ?_))))))
        ·have hlw : ws.length < (Qp px[k]).length := by omega
         have hub := YT px[k] _ (List.getElem_mem hlw)
         refine Wp.skip (Qb (Wp.block ?_))
         refine Qb (Qa (Xg ws.length rfl rfl rfl hA1 (by exact Take.ent' (by repeat' constructor)) rfl (by omega) (by rw [Xf]; omega) ?_))
         refine Xk rfl rfl hA1 (by exact Take.ent' (by repeat' constructor)) (XA _ hlw) ?_
         refine Qd rfl rfl (WpL.nil (Qa (Qc rfl rfl (Qc rfl rfl (Qi rfl rfl (by repeat' constructor) (ZJ _ hub.1 (by omega)) ?_)))))
         rintro _ _ ⟨rfl, rfl⟩
         simp only [Qs]
         refine X4 rfl rfl rfl rfl ?_
         intro g4
         refine XN rfl rfl rfl (by repeat' constructor) (by rfl) (by rfl) (by rfl) (by rfl) (by have := XL px[k]; omega) (by have := XL px[k]; omega) ?_
         intro a113 c113
         rw [strs_snoc, show ws.length + 1 = (ws ++ [strOfNums (XO ((Qp px[k])[ws.length]'hlw).toNat)]).length from by simp]
         refine Qd rfl rfl (WpL.nil (Qa (QA rfl rfl rfl (Qo (by omega) (by omega)) ?_)))
         refine Qc rfl rfl (WpL.nil (Qq (⟨ws ++ [strOfNums (XO ((Qp px[k])[ws.length]'hlw).toNat)], a113, c113⟩ : WoX) ?_ ?_ (by ((repeat (first | exact Top.refl | refine Top.push rfl ?_)); done)) (FrLe.cons (congrArg (fun x => some (Value.int .i64 x)) (by simp)) (FrLe.cons rfl FrLe.nil)) ?_))
         ·refine ⟨by simp; omega, ?_⟩
          simp only [List.length_append, List.length_cons, List.length_nil, Nat.zero_add]
          have hlw2 : ws.length < (wsOf px[k]).length := by simp [wsOf]; omega
          rw [List.take_succ_eq_append_getElem hlw2, ← hw2]
          simp [wsOf]
         ·simp only [List.length_append, List.length_cons, List.length_nil]; omega
         ·exact Ent.refl _
        ·have hwl : ws.length = (wsOf px[k]).length := by simp [wsOf]; omega
         have hwe : ws = wsOf px[k] := by rw [hw2, hwl, List.take_length]
         have hint : [32].intercalate (ws.map QJ) = X0 (Qp px[k]) := by rw [hwe, wsOf_bytes, joinB_inter]
         refine QP (Qa (Qc rfl rfl (Qi rfl rfl (by repeat' constructor) (Join_spec _ _ ws ⟨#[32]⟩ (by simp [wsOf] at hwl; omega) (by have := XL px[k]; omega) (by rw [show QJ ⟨#[32]⟩ = [32] from rfl, hint]; have := XL px[k]; omega)) ?_)))
         rintro _ _ ⟨sj, rfl, hsj, rfl⟩
         simp only [Qs]
         have hsj2 : QJ sj = X0 (Qp px[k]) := hsj.trans hint
         have hsz : sj.size ≤ 18 := by rw [← QZ, hsj2]; have := XL px[k]; omega
         have hnl : (⟨#[10]⟩ : ByteArray).size = 1 := rfl
         refine YC rfl rfl rfl (by omega) ?_
         refine Qi rfl rfl (by repeat' constructor) (ZV gB p a c bs hp _ (by rw [ByteArray.size_append]; omega)) ?_
         rintro _ _ ⟨ab, cb, rfl⟩
         simp only [Qs]
         refine WpL.nil (Qa (QA rfl rfl rfl (Qo (by omega) (by omega)) ?_))
         refine Qc rfl rfl (WpL.nil (Qq (⟨k + 1, bs ++ QJ (sj ++ ⟨#[10]⟩), some ⟨gB, 0, none⟩, ab, cb⟩ : WbX) ?_ ?_ (by ((repeat (first | exact Top.refl | refine Top.push rfl ?_)); done)) (by repeat (first | exact FrLe.nil | refine FrLe.cons rfl ?_)) ?_))
         ·refine ⟨by simp only; omega, ?_, .inr rfl⟩
          simp only
          rw [wr_take hlt, hbs, Yc, hsj2, show nlB K (Wn : Int) k = true from decide_eq_true (.inl (by omega)), if_pos rfl, show QJ ⟨#[10]⟩ = [10] from rfl]
         ·simp only; omega
         ·exact Take.ent' (by repeat' constructor)
      ·have hke : k = px.length := by omega
       rw [hke, List.take_length] at hbs
       have hbl := VI (K := K) (W := (Wn : Int)) px 0
       have hbp := wrL_pos (K := K) (W := (Wn : Int)) hne hun 0
       have hbb := wrL_byte (K := K) (W := (Wn : Int)) px 0
       subst hbs
       refine QP (Qb (Qa (Qi rfl rfl (by repeat' constructor) (BString_spec gB c p a _ hbp (by omega) hbb) ?_)))
       rintro _ _ ⟨rfl, rfl⟩
       simp only [Qs]
       refine Qd rfl rfl (Qd rfl rfl (WpL.nil (Qh ?_)))
       apply RetQ.mk
       ·exact (QM rfl rfl rfl)
       ·exact ⟨_, _, rfl, .inl ⟨hWP, rfl, Yj hbb, by rw [YF]; omega⟩, rfl⟩
       ·exact Take.ent' (by repeat' constructor)
  ·have hg2 := of_decide_eq_true hg2
   refine Qe rfl rfl rfl (by decide) (Qe rfl rfl rfl (by decide) (Qr rfl rfl rfl (WpL.nil (Xn rfl (Qb (Qa (Qd rfl rfl (Qd rfl rfl (WpL.nil (Qh ?_))))))))))
   apply RetQ.mk
   ·exact (QM rfl rfl rfl)
   ·exact ⟨_, _, rfl, .inr ⟨fun h => hg2 (by have := h.2.1; omega), rfl, rfl⟩, rfl⟩
   ·exact Take.ent' (by repeat' constructor)
 ·simp only [Qs]
  exfalso
  exact hP' hP

end Go.Proofs.YtggamdlpiejbiaaGreat
namespace Go.Proofs.YtggamdlpiejbiaaGreat
open Go.RowKit Go.Shelf


/-- The bytes that end samples: of bits each digit, else each blank. -/
def cntS (K b : Int) : Bool := if K = 1 then !Xc b else Xc b
section
variable {K W H M : Int}
def sgm (ch : Int) (s : RS) : Int := ch * (s.row.length : Int) + (s.one.length : Int)
theorem sgm_sample {ch : Int} (s : RS) (x : Int) (_hc : (s.one.length : Int) < ch) : sgm ch (X1 ch s x) ≤ sgm ch s + 1 := by
  unfold sgm X1 XF
  split
  · rename_i h
    simp only [List.length_append, List.length_cons, List.length_nil] at h ⊢
    push_cast at h ⊢
    rw [Int.mul_add]
    omega
  · simp only [List.length_append, List.length_cons, List.length_nil]
    push_cast
    omega
theorem sgm_step {s : RS} {c : Int} (hc : (s.one.length : Int) < QR K) (he : (Xz K M s c).2 = 0) : sgm (QR K) (Xz K M s c).1 ≤ sgm (QR K) s + (if cntS K c = true then 1 else 0) := by
  unfold Xz cntS at *
  split
  · rename_i h1
    rw [if_pos h1] at he
    unfold Vj at *
    split
    · simp only; split <;> omega
    · rename_i hb
      rw [if_neg hb] at he
      split
      · rename_i h2; rw [if_pos h2] at he; simp at he
      · have := sgm_sample s (c - 48) hc
        simp only [hb]
        simpa using this
  · rename_i h1
    rw [if_neg h1] at he
    unfold ZO at *
    split
    · unfold YG
      split
      · simp only; omega
      · exact sgm_sample s s.n hc
    · split
      · simp [sgm]
      · split
        · simp [sgm]
        · simp [sgm]
theorem sgm_full {ch : Int} (s : RS) : ch * ((Xw W H s).2.length : Int) + sgm ch (Xw W H s).1 = sgm ch s := by
  unfold Xw sgm
  split
  · simp
  · simp
theorem stepR_e {s : RS} {c : Int} : (Xz K M s c).2 = 0 ∨ (Xz K M s c).2 = 3 ∨ (Xz K M s c).2 = 5 := by
  unfold Xz Vj ZO Xm
  repeat' split
  all_goals first | (simp; done) | (simp_all; done)
theorem readL_cnt : ∀ (bs : List Int) (i : Int) (s : RS) (acc out : List Int) (j : Int) (k : Nat), RInv (QR K) k acc.length s → s.last = 0 → Yr K W H M bs i s acc = (out, j, 0) →
    i ≤ j ∧ j ≤ i + bs.length ∧ (j = i + bs.length ∨ QR K * (out.length : Int) ≤ QR K * (acc.length : Int) + sgm (QR K) s + ((bs.take (j - i).toNat).countP (cntS K) : Nat))
  | [], i, s, acc, out, j, k, hi, hl, h => by
    rw [Yr] at h
    split at h
    · rename_i h2
      exfalso
      have he : (Vv K W H s).1.e = 6 ∨ (Vv K W H s).1.last ≠ 2 := by
        unfold Vv
        rw [if_neg (by omega)]
        split
        · exact .inl rfl
        · right
          have h4 := (Vw (QR K) s).2.1
          unfold Xw
          split
          · simp only; omega
          · simp only; split <;> omega
      simp only [Prod.mk.injEq] at h
      omega
    · simp only [Prod.mk.injEq] at h
      obtain ⟨_, rfl, _⟩ := h
      simp
  | c :: bs, i, s, acc, out, j, k, hi, hl, h => by
    rw [Yr] at h
    have hk := VF K M s c
    have hinv := putR_inv (M := M) (W := W) (H := H) (c := c) hi
    have hlt := putR_last (K := K) (W := W) (H := H) (M := M) (c := c) hl
    by_cases he : (Xz K M s c).2 = 0
    · have hp : XP K W H M s c = Xw W H (Xz K M s c).1 := by unfold XP; rw [if_neg (by omega), if_neg (by omega)]
      have hg1 := sgm_step (K := K) (M := M) (s := s) (c := c) hi.1 he
      have hg2 := sgm_full (W := W) (H := H) (ch := QR K) (Xz K M s c).1
      rw [← hp] at hg2
      split at h
      · simp only [Prod.mk.injEq] at h
        obtain ⟨rfl, rfl, _⟩ := h
        refine ⟨by omega, by simp only [List.length_cons]; push_cast; omega, .inr ?_⟩
        rw [show (i + 1 - i).toNat = 1 by omega]
        simp only [List.take_succ_cons, List.take_zero, List.countP_cons, List.countP_nil, List.length_append]
        have h0 : 0 ≤ sgm (QR K) (XP K W H M s c).1 := by
          have := (YU K).1
          unfold sgm
          have := Int.mul_nonneg (show 0 ≤ QR K by omega) (Int.natCast_nonneg (XP K W H M s c).1.row.length)
          omega
        push_cast
        rw [Int.mul_add]
        split <;> rename_i hc <;> simp only [hc, if_true, if_false, Bool.false_eq_true] at hg1 <;> omega
      · split at h
        · rename_i h2
          exfalso
          rw [hp] at h2
          unfold Xw at h2
          split at h2
          · rw [hk.2.1] at h2; omega
          · simp only at h2; split at h2 <;> omega
        · rename_i h1 h2
          obtain ⟨r1, r2, r3⟩ := readL_cnt bs (i + 1) (XP K W H M s c).1 (acc ++ (XP K W H M s c).2) out j (k + 1) (by rw [List.length_append]; exact hinv) (by omega) h
          refine ⟨by omega, by simp only [List.length_cons]; push_cast; omega, ?_⟩
          rcases r3 with r3 | r3
          · left; simp only [List.length_cons]; push_cast; omega
          · right
            rw [show (j - i).toNat = (j - (i + 1)).toNat + 1 by omega, List.take_succ_cons, List.countP_cons]
            rw [List.length_append] at r3
            push_cast at r3 ⊢
            rw [Int.mul_add] at r3
            split <;> rename_i hc <;> simp only [hc, if_true, if_false, Bool.false_eq_true] at hg1 <;> omega
    · exfalso
      have hp : XP K W H M s c = (YX (Xz K M s c).1 (Xz K M s c).2, []) := by unfold XP; rw [if_neg (by omega), if_pos he]
      rw [hp] at h
      have h3 := stepR_e (K := K) (M := M) (s := s) (c := c)
      rw [if_neg (show ¬ (YX (Xz K M s c).1 (Xz K M s c).2).last = 1 from by simp [YX]), if_pos (show (YX (Xz K M s c).1 (Xz K M s c).2).last = 2 from rfl)] at h
      simp only [Prod.mk.injEq, YX] at h
      omega
theorem digs_cnt (n : Nat) : (XO n).countP Xc = 0 := by
  rw [List.countP_eq_zero]
  intro x hx
  have := digs_bd n x hx
  simp only [Xc, decide_eq_true_eq]; omega
theorem joinB_cnt : ∀ xs : List Int, xs ≠ [] → (X0 xs).countP Xc + 1 = xs.length
  | [], h => absurd rfl h
  | [x], _ => by simp [X0, digs_cnt]
  | x :: y :: xs, _ => by
    have ih := joinB_cnt (y :: xs) (by simp)
    rw [X0, List.countP_append, digs_cnt, List.countP_cons]
    simp only [List.length_cons] at ih ⊢
    have : Xc 32 = true := by decide
    simp only [this, if_true]
    omega
/-- As many as there are samples. -/
theorem wr_cntS (h1 : 1 ≤ K) (h3 : K ≤ 3) : ∀ (l : List Int) (i : Nat), (∀ p ∈ l, Can (QR K) M p) → (K = 1 → M = 1) → (((ZI K W i l).countP (cntS K) : Nat) : Int) = QR K * (l.length : Int)
  | [], i, _, _ => by simp [ZI]
  | p :: l, i, hc, hM => by
    have ih := wr_cntS h1 h3 l (i + 1) (fun q hq => hc q (by simp [hq])) hM
    obtain ⟨hl, _, hs⟩ := hc p (by simp)
    have hch := YU K
    rw [ZI, List.countP_append]
    have hp : (((pxB K W i p).countP (cntS K) : Nat) : Int) = QR K := by
      unfold pxB
      rw [List.countP_append]
      by_cases hK : K = 1
      · have e1 : QR K = 1 := by rw [hK]; rfl
        rw [e1] at hl ⊢
        match hu : Qp p, hl with
        | [x], _ =>
          have hx := hs x (by rw [hu]; simp)
          rw [hM hK] at hx
          rw [X0, digs_one (by omega) (by omega)]
          have c1 : cntS K (48 + x) = true := by
            unfold cntS
            rw [if_pos hK]
            simp [Xc]; omega
          have c2 : cntS K 10 = false := by unfold cntS; rw [if_pos hK]; decide
          simp only [List.countP_cons, c1, if_true, List.countP_nil]
          split <;> simp [c2]
        | [], hl => simp at hl
        | _ :: _ :: _, hl => simp at hl; omega
      · have hf : cntS K = Xc := by funext b; unfold cntS; rw [if_neg hK]
        rw [hf, show nlB K W i = true from decide_eq_true (.inl (by omega)), if_pos rfl]
        have hne : Qp p ≠ [] := fun e => by rw [e] at hl; simp at hl; omega
        have := joinB_cnt (Qp p) hne
        have h10 : Xc 10 = true := by decide
        simp only [List.countP_cons, List.countP_nil, h10, if_true]
        push_cast
        omega
    push_cast
    rw [ih, hp, List.length_cons]
    push_cast
    rw [Int.mul_add]
    omega
theorem wr_tail (_h1 : 1 ≤ K) (hW : 1 ≤ W) {l : List Int} {i : Nat} (hne : l ≠ []) (hc : ∀ p ∈ l, Can (QR K) M p) (_hM : K = 1 → M = 1) (hlast : ((i + l.length : Nat) : Int) % W = 0) :
    ∃ A d, ZI K W i l = A ++ [d, 10] ∧ Xc d = false := by
  induction l generalizing i with
  | nil => exact absurd rfl hne
  | cons p l ih =>
    by_cases he : l = []
    · subst he
      obtain ⟨hl, _, hs⟩ := hc p (by simp)
      have hch := YU K
      have hn : nlB K W i = true := by
        refine decide_eq_true (.inr (.inl ?_))
        simp only [List.length_cons, List.length_nil] at hlast
        push_cast at hlast
        have a1 := Int.emod_nonneg (i : Int) (show W ≠ 0 by omega)
        have a2 := Int.emod_lt_of_pos (i : Int) (show 0 < W by omega)
        have a3 : (i : Int) = W * ((i : Int) / W) + (i : Int) % W := (Int.mul_ediv_add_emod _ _).symm
        by_cases hq : (i : Int) % W = W - 1
        · exact hq
        · exfalso
          have : ((i : Int) + 1) % W = (i : Int) % W + 1 := by
            rw [← Int.emod_add_emod]
            exact Int.emod_eq_of_lt (by omega) (by omega)
          omega
      have hj : ∀ xs : List Int, xs ≠ [] → ∃ A d, X0 xs = A ++ [d] ∧ Xc d = false := by
        intro xs
        induction xs with
        | nil => intro h; exact absurd rfl h
        | cons x xs ih2 =>
          intro _
          cases xs with
          | nil =>
            have h5 : (XO x.toNat) ≠ [] := by
              rw [lowD_digs]
              obtain ⟨t, ht⟩ := lowD_head 10 x.toNat
              rw [ht]; simp
            refine ⟨(XO x.toNat).dropLast, (XO x.toNat).getLast h5, ?_, ?_⟩
            · rw [X0, List.dropLast_concat_getLast]
            · have := digs_bd _ _ (List.getLast_mem h5)
              simp only [Xc, decide_eq_false_iff_not]; omega
          | cons y ys =>
            obtain ⟨A, d, e, hd⟩ := ih2 (by simp)
            exact ⟨XO x.toNat ++ 32 :: A, d, by rw [X0, e]; simp, hd⟩
      obtain ⟨A, d, e, hd⟩ := hj (Qp p) (fun e => by rw [e] at hl; simp at hl; omega)
      refine ⟨A, d, ?_, hd⟩
      rw [ZI, ZI, pxB, hn, if_pos rfl, e]
      simp
    · obtain ⟨A, d, e, hd⟩ := ih (i := i + 1) he (fun q hq => hc q (by simp [hq])) (by rw [← hlast]; congr 1; simp only [List.length_cons]; omega)
      exact ⟨pxB K W i p ++ A, d, by rw [ZI, e, List.append_assoc], hd⟩
theorem read_where (hP : Zq K W H M) {l : List Int} {j : Int} (hc : ∀ p ∈ l, Can (QR K) M p) (hl : (l.length : Int) = W * H) (h : Zz K W H M (ZI K W 0 l) = (l, j, 0)) : j = ((ZI K W 0 l).length : Int) ∨ j = ((ZI K W 0 l).length : Int) - 1 := by
  have hP2 := hP.1
  unfold XG at hP2
  have hK4 := hP.2
  have hch := YU K
  rw [Zz, if_pos hP] at h
  obtain ⟨h1, h2, h3⟩ := readL_cnt _ _ _ _ _ _ 0 ⟨by simp [s0R]; omega, by simp [s0R], by simp [s0R], by simp [s0R]⟩ rfl h
  rcases h3 with h3 | h3
  · left; simpa using h3
  · have hne : l ≠ [] := fun e => by
      have := Int.mul_pos (show 0 < W by omega) (show 0 < H by omega)
      rw [e] at hl; simp at hl; omega
    obtain ⟨A, d, he, hd⟩ := wr_tail (K := K) (W := W) (M := M) (i := 0) (by omega) (by omega) hne hc (by omega) (by rw [Nat.zero_add, hl]; exact Int.mul_emod_right W H)
    have hcnt := wr_cntS (K := K) (W := W) (M := M) (by omega) (by omega) l 0 hc (by omega)
    rw [← List.take_append_drop (j - 0).toNat (ZI K W 0 l), List.countP_append] at hcnt
    have hz : ((ZI K W 0 l).drop (j - 0).toNat).countP (cntS K) = 0 := by
      simp only [List.length_nil, sgm, s0R] at h3
      push_cast at hcnt h3
      omega
    rw [List.countP_eq_zero] at hz
    by_cases h5 : (j - 0).toNat + 2 ≤ (ZI K W 0 l).length
    · exfalso
      have hd1 : d ∈ (ZI K W 0 l).drop (j - 0).toNat := by
        rw [he] at h5 ⊢
        simp only [List.length_append, List.length_cons, List.length_nil] at h5
        rw [List.drop_append_of_le_length (by omega)]
        simp
      have hd2 : (10 : Int) ∈ (ZI K W 0 l).drop (j - 0).toNat := by
        rw [he] at h5 ⊢
        simp only [List.length_append, List.length_cons, List.length_nil] at h5
        rw [List.drop_append_of_le_length (by omega)]
        simp
      have c1 := hz d hd1
      have c2 := hz 10 hd2
      unfold cntS at c1 c2
      by_cases hK : K = 1
      · rw [if_pos hK, hd] at c1; simp at c1
      · rw [if_neg hK] at c2; exact c2 (by decide)
    · omega
end

end Go.Proofs.YtggamdlpiejbiaaGreat
namespace Go.Proofs.YtggamdlpiejbiaaGreat
open Go.RowKit Go.Shelf

def ZD (x : Int) : Prop := x = 0 ∨ x = 1
/-- Bits joined, the highest first: the first one weighs w. -/
def bw : List Int → Nat → Int
  | [], _ => 0
  | x :: xs, m => x * 2 ^ m + bw xs (m - 1)
theorem bw_bd : ∀ (xs : List Int) (m : Nat), xs.length ≤ m + 1 → (∀ x ∈ xs, ZD x) → 0 ≤ bw xs m ∧ bw xs m < 2 ^ (m + 1)
  | [], m, _, _ => ⟨by simp [bw], by simp only [bw]; exact_mod_cast Nat.two_pow_pos (m + 1)⟩
  | x :: xs, m, hl, hb => by
    have hx := hb x (by simp)
    have h2 : (0 : Int) < 2 ^ m := by exact_mod_cast Nat.two_pow_pos m
    rw [Int.pow_succ]
    cases m with
    | zero =>
      have : xs = [] := List.eq_nil_of_length_eq_zero (by simp only [List.length_cons] at hl; omega)
      subst this
      unfold ZD at hx
      simp only [bw]; rcases hx with rfl | rfl <;> simp
    | succ m =>
      have ih := bw_bd xs m (by simp at hl; omega) fun y hy => hb y (by simp [hy])
      unfold ZD at hx
      simp only [bw, Nat.add_sub_cancel]
      rcases hx with rfl | rfl <;> omega
theorem bw_snoc (b : Int) : ∀ (xs : List Int) (m : Nat), xs.length ≤ m → bw (xs ++ [b]) m = bw xs m + b * 2 ^ (m - xs.length)
  | [], m, _ => by simp [bw]
  | x :: xs, m, h => by
    simp only [List.length_cons] at h
    rw [List.cons_append, bw, bw, bw_snoc b xs (m - 1) (by omega), List.length_cons, show m - 1 - xs.length = m - (xs.length + 1) by omega]
    omega
/-- What stands above a place is a multiple. -/
theorem bw_mul : ∀ (xs : List Int) (m : Nat), xs.length ≤ m + 1 → ∃ q, bw xs m = q * 2 ^ (m + 1 - xs.length)
  | [], m, _ => ⟨0, by simp [bw]⟩
  | x :: xs, m, h => by
    simp only [List.length_cons] at h
    cases m with
    | zero =>
      have : xs = [] := List.eq_nil_of_length_eq_zero (by omega)
      subst this
      exact ⟨x, by simp [bw]⟩
    | succ m =>
      obtain ⟨q, hq⟩ := bw_mul xs m (by omega)
      refine ⟨x * 2 ^ xs.length + q, ?_⟩
      rw [bw, Nat.add_sub_cancel, hq, Int.add_mul, Int.mul_assoc, ← Int.pow_add]
      rw [List.length_cons, show xs.length + (m + 1 + 1 - (xs.length + 1)) = m + 1 by omega, show m + 1 + 1 - (xs.length + 1) = m + 1 - xs.length by omega]
theorem bw_bit : ∀ (xs : List Int) (m t : Nat) (ht : t < xs.length), xs.length ≤ m + 1 → (∀ x ∈ xs, ZD x) → bw xs m / 2 ^ (m - t) % 2 = xs[t]
  | x :: xs, m, t, ht, hl, hb => by
    have hx := hb x (by simp)
    simp only [List.length_cons] at hl
    cases t with
    | zero =>
      simp only [Nat.sub_zero, List.getElem_cons_zero, bw]
      have h2 : (0 : Int) < 2 ^ m := by exact_mod_cast Nat.two_pow_pos m
      have hr : 0 ≤ bw xs (m - 1) ∧ bw xs (m - 1) < 2 ^ m := by
        cases m with
        | zero =>
          have : xs = [] := List.eq_nil_of_length_eq_zero (by omega)
          subst this
          simp [bw]
        | succ m => exact bw_bd xs m (by omega) fun y hy => hb y (by simp [hy])
      rw [Int.add_comm, Int.add_mul_ediv_right _ _ (by omega), Int.ediv_eq_zero_of_lt hr.1 hr.2]
      unfold ZD at hx
      rcases hx with rfl | rfl <;> rfl
    | succ t =>
      simp only [List.length_cons] at ht
      cases m with
      | zero => omega
      | succ m =>
        have ih := bw_bit xs m t (by omega) (by omega) fun y hy => hb y (by simp [hy])
        simp only [List.getElem_cons_succ, bw, Nat.add_sub_cancel]
        rw [show m + 1 - (t + 1) = m - t by omega, ← ih]
        have e : (2 : Int) ^ (m + 1) = 2 * 2 ^ t * 2 ^ (m - t) := by
          rw [Int.mul_assoc, ← Int.pow_add, show t + (m - t) = m by omega, Int.pow_succ, Int.mul_comm]
        have h2 : (2 : Int) ^ (m - t) ≠ 0 := by have := Nat.two_pow_pos (m - t); exact_mod_cast Nat.ne_of_gt this
        rw [e, ← Int.mul_assoc, Int.add_comm, Int.add_mul_ediv_right _ _ h2]
        rw [show x * (2 * 2 ^ t) = 2 * (x * 2 ^ t) from by rw [← Int.mul_assoc, Int.mul_comm x 2, Int.mul_assoc]]
        omega
def byteOf (xs : List Int) : Int := bw xs 7
def X7 (l : List Int) (j : Nat) : Int := byteOf ((l.drop (8 * j)).take 8)
def YB (l : List Int) : List Int := (List.range ((l.length + 7) / 8)).map (X7 l)
def bitAt (bs : List Int) (i : Nat) : Int := (bs[i / 8]?.getD 0) / 2 ^ (7 - i % 8) % 2
def YH (bs : List Int) (w : Nat) : List Int := (List.range w).map (bitAt bs)
theorem Zb (l : List Int) : (YB l).length = (l.length + 7) / 8 := by simp [YB]
theorem byteAt_bd {l : List Int} (h : ∀ x ∈ l, ZD x) (j : Nat) : 0 ≤ X7 l j ∧ X7 l j ≤ 255 := by
  have := bw_bd ((l.drop (8 * j)).take 8) 7 (by rw [List.length_take]; omega) fun x hx => h x (List.mem_of_mem_drop (List.mem_of_mem_take hx))
  unfold X7 byteOf
  omega
theorem packB_bd {l : List Int} (h : ∀ x ∈ l, ZD x) : ∀ b ∈ YB l, 0 ≤ b ∧ b ≤ 255 := by
  intro b hb
  obtain ⟨j, _, rfl⟩ := List.mem_map.1 hb
  exact byteAt_bd h j
theorem ubits_packB {l : List Int} (h : ∀ x ∈ l, ZD x) : YH (YB l) l.length = l := by
  apply List.ext_getElem
  · simp [YH]
  · intro i h1 h2
    simp only [YH, List.getElem_map, List.getElem_range, bitAt]
    have hj : i / 8 < (YB l).length := by rw [Zb]; omega
    rw [List.getElem?_eq_getElem hj]
    simp only [YB, List.getElem_map, List.getElem_range, Option.getD_some, X7, byteOf]
    have hl : i % 8 < ((l.drop (8 * (i / 8))).take 8).length := by
      rw [List.length_take, List.length_drop]
      omega
    rw [bw_bit _ 7 (i % 8) hl (by rw [List.length_take]; omega) (fun x hx => h x (List.mem_of_mem_drop (List.mem_of_mem_take hx)))]
    simp only [List.getElem_take, List.getElem_drop]
    congr 1
    omega
theorem byte_seg {l : List Int} {i : Nat} (hi : i < l.length) : ((l.take (i + 1)).drop (8 * (i / 8))).take 8 = ((l.take i).drop (8 * (i / 8))).take 8 ++ [l[i]] := by
  have h1 : ((l.take i).drop (8 * (i / 8))).length = i % 8 := by rw [List.length_drop, List.length_take]; omega
  rw [Xo l hi, List.drop_append_of_le_length (by rw [List.length_take]; omega), List.take_append, h1]
  rw [show 8 - i % 8 = (7 - i % 8) + 1 by omega, List.take_succ_cons, List.take_nil]
theorem byte_segl {l : List Int} {i : Nat} (hi : i < l.length) : (((l.take i).drop (8 * (i / 8))).take 8).length = i % 8 := by rw [List.length_take, List.length_drop, List.length_take]; omega
theorem byteAt_step {l : List Int} {i : Nat} (hi : i < l.length) : X7 (l.take (i + 1)) (i / 8) = X7 (l.take i) (i / 8) + l[i] * 2 ^ (7 - i % 8) := by
  unfold X7 byteOf
  rw [byte_seg hi, bw_snoc _ _ _ (by rw [byte_segl hi]; omega), byte_segl hi]
theorem byteAt_mul {l : List Int} {i : Nat} (hi : i < l.length) : ∃ q, X7 (l.take i) (i / 8) = q * 2 ^ (7 - i % 8 + 1) := by
  obtain ⟨q, hq⟩ := bw_mul (((l.take i).drop (8 * (i / 8))).take 8) 7 (by rw [byte_segl hi]; omega)
  rw [byte_segl hi, show 7 + 1 - i % 8 = 7 - i % 8 + 1 by omega] at hq
  exact ⟨q, hq⟩
theorem byteAt_other {l : List Int} {i j : Nat} (hi : i < l.length) (h : j ≠ i / 8) : X7 (l.take (i + 1)) j = X7 (l.take i) j := by
  unfold X7
  congr 1
  rw [Xo l hi]
  by_cases h1 : 8 * j ≤ i
  · rw [List.drop_append_of_le_length (by rw [List.length_take]; omega), List.take_append_of_le_length (by rw [List.length_drop, List.length_take]; omega)]
  · rw [List.drop_eq_nil_of_le (by rw [List.length_append, List.length_take]; simp; omega), List.drop_eq_nil_of_le (by rw [List.length_take]; omega)]
def outB (l : List Int) (n i : Nat) : List Int := (List.range n).map (X7 (l.take i))
theorem outB_len (l : List Int) (n i : Nat) : (outB l n i).length = n := by simp [outB]
theorem outB_zero (l : List Int) (n : Nat) : outB l n 0 = List.replicate n 0 := by
  unfold outB
  apply List.ext_getElem
  · simp
  · intro k h1 h2
    simp [X7, byteOf, bw]
theorem outB_all (l : List Int) : outB l ((l.length + 7) / 8) l.length = YB l := by unfold outB YB; rw [List.take_length]
theorem outB_step {l : List Int} {n i : Nat} (hi : i < l.length) (_hn : i / 8 < n) : (outB l n i).set (i / 8) (X7 (l.take i) (i / 8) + l[i] * 2 ^ (7 - i % 8)) = outB l n (i + 1) := by
  apply List.ext_getElem
  · simp [outB]
  · intro k h1 h2
    rw [List.getElem_set]
    simp only [outB, List.getElem_map, List.getElem_range]
    split
    · rename_i e; rw [← e, byteAt_step hi]
    · rename_i e; rw [byteAt_other hi (Ne.symm e)]
theorem or_bits {q b : Int} {s : Nat} (hq : 0 ≤ q) (hb : ZD b) : (((q * 2 ^ (s + 1)).toNat ||| (b * 2 ^ s).toNat : Nat) : Int) = q * 2 ^ (s + 1) + b * 2 ^ s := by
  obtain ⟨a, rfl⟩ := Int.eq_ofNat_of_zero_le hq
  have e : (((a : Int) * 2 ^ (s + 1)).toNat) = a <<< (s + 1) := by
    rw [Nat.shiftLeft_eq]; exact_mod_cast Int.toNat_natCast (a * 2 ^ (s + 1))
  rw [e]
  unfold ZD at hb
  have hlt : 2 ^ s < 2 ^ (s + 1) := Nat.pow_lt_pow_right (by omega) (by omega)
  rcases hb with rfl | rfl
  · simp [Nat.shiftLeft_eq]
  · have e2 : ((1 : Int) * 2 ^ s).toNat = 2 ^ s := by rw [Int.one_mul]; exact_mod_cast Int.toNat_natCast (2 ^ s)
    rw [e2, ← Nat.shiftLeft_add_eq_or_of_lt hlt, Nat.shiftLeft_eq]
    push_cast
    omega
def Qg (M : Int) : Nat := if 255 < M then 2 else 1
theorem Q1 (M : Int) : Qg M = 1 ∨ Qg M = 2 := by unfold Qg; split <;> simp
def YA (w : Nat) (x : Int) : List Int := if w = 1 then [x] else [x / 256, x % 256]
def Xx (w : Nat) (b : List Int) (i : Nat) : Int := if w = 1 then b[i]?.getD 0 else (b[2 * i]?.getD 0) * 256 + (b[2 * i + 1]?.getD 0)
def Ye (w : Nat) (b : List Int) : List Int := (List.range (b.length / w)).map (Xx w b)
theorem Vu {w : Nat} (hw : w = 1 ∨ w = 2) (xs : List Int) : (xs.flatMap (YA w)).length = xs.length * w := by
  induction xs with
  | nil => simp
  | cons x xs ih =>
    rw [List.flatMap_cons, List.length_append, ih, List.length_cons, Nat.add_mul]
    rcases hw with rfl | rfl <;> simp [YA] <;> omega
theorem enc_at {w : Nat} (hw : w = 1 ∨ w = 2) : ∀ (xs : List Int) (i : Nat) (hi : i < xs.length), Xx w (xs.flatMap (YA w)) i = xs[i]
  | x :: xs, 0, _ => by
    rcases hw with rfl | rfl
    · simp [Xx, YA]
    · simp [Xx, YA]; omega
  | x :: xs, i + 1, hi => by
    have ih := enc_at hw xs i (by simpa using hi)
    rw [List.getElem_cons_succ, ← ih]
    rcases hw with rfl | rfl
    · simp [Xx, YA]
    · simp only [Xx, YA, List.flatMap_cons]
      rw [show 2 * (i + 1) = 2 * i + 2 by omega, show 2 * i + 2 + 1 = (2 * i + 1) + 2 by omega]
      simp
theorem smps_enc {w : Nat} (hw : w = 1 ∨ w = 2) (xs : List Int) : Ye w (xs.flatMap (YA w)) = xs := by
  apply List.ext_getElem
  · simp only [Ye, List.length_map, List.length_range, Vu hw]
    rcases hw with rfl | rfl <;> omega
  · intro i h1 h2
    simp only [Ye, List.getElem_map, List.getElem_range]
    exact enc_at hw xs i h2
theorem enc_bd {w : Nat} {xs : List Int} (h : ∀ x ∈ xs, 0 ≤ x ∧ x ≤ 65535) (h1 : w = 1 → ∀ x ∈ xs, x ≤ 255) : ∀ b ∈ xs.flatMap (YA w), 0 ≤ b ∧ b ≤ 255 := by
  intro b hb
  obtain ⟨x, hx, hb⟩ := List.mem_flatMap.1 hb
  have := h x hx
  unfold YA at hb
  split at hb
  · rename_i hw; have := h1 hw x hx; simp at hb; omega
  · simp at hb; omega
def Yl (ch : Nat) (l : List Int) : List Int := (List.range (l.length / ch)).map fun k => (Xp ((l.drop (k * ch)).take ch)).1
theorem Zw {ch : Nat} (px : List Int) (h : ∀ p ∈ px, (Qp p).length = ch) : (px.flatMap Qp).length = px.length * ch := by
  induction px with
  | nil => simp
  | cons p px ih =>
    rw [List.flatMap_cons, List.length_append, ih fun q hq => h q (by simp [hq]), h p (by simp), List.length_cons, Nat.add_mul]
    omega
theorem flat_at {ch : Nat} : ∀ (px : List Int) (_ : ∀ p ∈ px, (Qp p).length = ch) (k : Nat) (hk : k < px.length), ((px.flatMap Qp).drop (k * ch)).take ch = Qp px[k]
  | p :: px, h, 0, _ => by
    rw [List.flatMap_cons, Nat.zero_mul, List.drop_zero, List.take_append_of_le_length (by rw [h p (by simp)]; omega), List.take_of_length_le (by rw [h p (by simp)]; omega)]
    rfl
  | p :: px, h, k + 1, hk => by
    have ih := flat_at px (fun q hq => h q (by simp [hq])) k (by simpa using hk)
    rw [List.flatMap_cons, List.getElem_cons_succ, ← ih, Nat.add_mul, Nat.one_mul, Nat.add_comm (k * ch), ← List.drop_drop, List.drop_append_of_le_length (by rw [h p (by simp)]; omega), show (Qp p).drop ch = [] from List.drop_of_length_le (by rw [h p (by simp)]; omega), List.nil_append]
theorem chunk_flat {ch : Nat} {M : Int} (h0 : 0 < ch) (px : List Int) (h : ∀ p ∈ px, Can (ch : Int) M p) : Yl ch (px.flatMap Qp) = px := by
  have hl : ∀ p ∈ px, (Qp p).length = ch := fun p hp => by exact_mod_cast (h p hp).1
  apply List.ext_getElem
  · simp only [Yl, List.length_map, List.length_range, Zw px hl]
    exact Nat.mul_div_cancel _ h0
  · intro k h1 h2
    simp only [Yl, List.getElem_map, List.getElem_range, flat_at px hl k h2]
    exact (h _ (List.getElem_mem h2)).2.1
def Zn (K : Int) (w : Nat) (row : List Int) : List Int := if K = 4 then YB row else row.flatMap (YA w)
def Yg (K : Int) (W : Nat) (w : Nat) (b : List Int) : List Int := Yl (QR K).toNat (if K = 4 then YH b W else Ye w b)
structure RW where
  (b : List Int) (n : Nat) (rows last e : Int)
/-- A raw raster's reader, told a byte. -/
def XK (K : Int) (W : Nat) (H M : Int) (s : RW) (c : Int) : RW × List Int :=
  if s.last ≠ 0 then (s, []) else
  if K ≠ 4 ∧ (s.n + 1) % Qg M = 0 ∧ Xx (Qg M) (s.b.set s.n c) ((s.n + 1) / Qg M - 1) > M then (⟨s.b.set s.n c, s.n + 1, s.rows, 2, 5⟩, []) else
  if s.n + 1 < s.b.length then (⟨s.b.set s.n c, s.n + 1, s.rows, 0, s.e⟩, []) else
  (⟨s.b.set s.n c, 0, s.rows + 1, if s.rows + 1 = H then 1 else 0, s.e⟩, Yg K W (Qg M) (s.b.set s.n c))
def YV (K : Int) (W : Nat) (H M : Int) : List Int → RW → List Int → List Int × Int
  | [], _, _ => ([], 6)
  | c :: bs, s, acc => if (XK K W H M s c).1.last = 1 then (acc ++ (XK K W H M s c).2, 0) else if (XK K W H M s c).1.last = 2 then ([], (XK K W H M s c).1.e) else YV K W H M bs (XK K W H M s c).1 (acc ++ (XK K W H M s c).2)
/-- One row's bytes. -/
theorem row_feed {K H M : Int} {W : Nat} {rb : List Int} (hok : K ≠ 4 → ∀ i, i < rb.length / Qg M → Xx (Qg M) rb i ≤ M) (rows e : Int) (bs acc : List Int) : ∀ (k : Nat) (b : List Int), b.length = rb.length → k < rb.length → b.take k = rb.take k →
    YV K W H M (rb.drop k ++ bs) ⟨b, k, rows, 0, e⟩ acc = if rows + 1 = H then (acc ++ Yg K W (Qg M) rb, 0) else YV K W H M bs ⟨rb, 0, rows + 1, 0, e⟩ (acc ++ Yg K W (Qg M) rb) := by
  intro k
  generalize hm : rb.length - k = m
  induction m generalizing k with
  | zero => intro b _ hk _; omega
  | succ m ih =>
    intro b hb hk ht
    rw [List.drop_eq_getElem_cons hk, List.cons_append, YV]
    have hset : (b.set k rb[k]).take (k + 1) = rb.take (k + 1) := by
      rw [List.take_set, List.take_succ_eq_append_getElem (by omega), List.take_succ_eq_append_getElem hk, ht]
      rw [List.set_append_right _ _ (by rw [List.length_take]; omega)]
      simp [List.length_take, Nat.min_eq_left (Nat.le_of_lt hk)]
    have hbad : ¬ (K ≠ 4 ∧ (k + 1) % Qg M = 0 ∧ Xx (Qg M) (b.set k rb[k]) ((k + 1) / Qg M - 1) > M) := by
      rintro ⟨h1, h2, h3⟩
      have hw := Q1 M
      have hi : (k + 1) / Qg M - 1 < rb.length / Qg M := by
        rcases hw with hw | hw <;> rw [hw] at h2 ⊢ <;> omega
      have h4 := hok h1 _ hi
      have hq : ∀ j, j < k + 1 → (b.set k rb[k])[j]? = rb[j]? := fun j hj => by
        have := congrArg (fun l => l[j]?) hset
        simpa [List.getElem?_take, hj] using this
      have h5 : Xx (Qg M) (b.set k rb[k]) ((k + 1) / Qg M - 1) = Xx (Qg M) rb ((k + 1) / Qg M - 1) := by
        unfold Xx
        rcases hw with hw | hw
        · rw [hw] at h2 ⊢
          rw [if_pos rfl, if_pos rfl, hq _ (by omega)]
        · rw [hw] at h2 ⊢
          rw [if_neg (by omega), if_neg (by omega), hq _ (by omega), hq _ (by omega)]
      omega
    have hlen : (b.set k rb[k]).length = rb.length := by rw [List.length_set, hb]
    by_cases hlast : k + 1 < rb.length
    · have hp : XK K W H M ⟨b, k, rows, 0, e⟩ rb[k] = (⟨b.set k rb[k], k + 1, rows, 0, e⟩, []) := by
        unfold XK
        rw [if_neg (by simp), if_neg hbad, if_pos (by simpa [hb] using hlast)]
      rw [hp]
      simp only [List.append_nil]
      rw [if_neg (by decide), if_neg (by decide)]
      exact ih (k + 1) (by omega) _ hlen hlast hset
    · have hall : b.set k rb[k] = rb := by
        have h1 : (b.set k rb[k]).take (k + 1) = b.set k rb[k] := List.take_of_length_le (by omega)
        have h2 : rb.take (k + 1) = rb := List.take_of_length_le (by omega)
        rw [← h1, hset, h2]
      have hp : XK K W H M ⟨b, k, rows, 0, e⟩ rb[k] = (⟨rb, 0, rows + 1, if rows + 1 = H then 1 else 0, e⟩, Yg K W (Qg M) rb) := by
        unfold XK
        rw [if_neg (by simp), if_neg hbad, if_neg (by simp [hb]; omega)]
        simp only [hall]
      rw [hp, show rb.drop (k + 1) = [] from List.drop_of_length_le (by omega), List.nil_append]
      by_cases hh : rows + 1 = H
      · simp [hh]
      · simp [hh]
/-- All rows' bytes. -/
theorem rows_feed {K H M : Int} {W st : Nat} (hst : 0 < st) : ∀ (rs : List (List Int)) (_ : ∀ r ∈ rs, r.length = st ∧ (K ≠ 4 → ∀ i, i < r.length / Qg M → Xx (Qg M) r i ≤ M)) (_ : rs ≠ []) (rows e : Int) (b acc : List Int), b.length = st → rows + (rs.length : Int) = H →
    YV K W H M rs.flatten ⟨b, 0, rows, 0, e⟩ acc = (acc ++ (rs.map (Yg K W (Qg M))).flatten, 0)
  | [], _, h, _, _, _, _, _, _ => absurd rfl h
  | r :: rs, hr, _, rows, e, b, acc, hb, hH => by
    have h1 := hr r (by simp)
    have h2 := row_feed (K := K) (H := H) (M := M) (W := W) (rb := r) h1.2 rows e rs.flatten acc 0 b (by omega) (by omega) (by simp)
    rw [List.drop_zero] at h2
    rw [List.flatten_cons, h2]
    simp only [List.length_cons] at hH
    push_cast at hH
    cases rs with
    | nil =>
      simp only [List.length_nil] at hH
      rw [if_pos (by omega)]; simp
    | cons r2 rs =>
      simp only [List.length_cons] at hH
      push_cast at hH
      rw [if_neg (by omega), rows_feed hst (r2 :: rs) (fun q hq => hr q (by simp [hq])) (by simp) (rows + 1) e r _ h1.1 (by simp only [List.length_cons]; push_cast; omega)]
      simp
/-- A raster's bytes: row by row. -/
def ZU (K : Int) (W w : Nat) (px : List Int) (n : Nat) : List (List Int) := (List.range n).map fun y => Zn K w (((px.drop (y * W)).take W).flatMap Qp)
def Xl (K : Int) (W w : Nat) (px : List Int) (n : Nat) : List Int := (ZU K W w px n).flatten
def QE (K : Int) (W w : Nat) : Nat := if K = 4 then (W + 7) / 8 else W * (QR K).toNat * w
theorem row_len {K M : Int} {W w : Nat} (hw : w = 1 ∨ w = 2) {row : List Int} (hr : row.length = W) (hc : ∀ p ∈ row, Can (QR K) M p) : (Zn K w (row.flatMap Qp)).length = QE K W w := by
  have hl : ∀ p ∈ row, (Qp p).length = (QR K).toNat := fun p hp => by have := (hc p hp).1; omega
  unfold Zn QE
  split
  · rename_i h4
    have e1 : (QR K).toNat = 1 := by rw [h4]; rfl
    rw [Zb, Zw row hl, e1, Nat.mul_one, hr]
  · rw [Vu hw, Zw row hl, hr]
theorem row_back {K M : Int} {W w : Nat} (hw : w = 1 ∨ w = 2) (h4 : K = 4 → M = 1) {row : List Int} (hr : row.length = W) (hc : ∀ p ∈ row, Can (QR K) M p) : Yg K W w (Zn K w (row.flatMap Qp)) = row := by
  have hch : QR K = 1 ∨ QR K = 3 := by unfold QR; split <;> simp
  have hl : ∀ p ∈ row, (Qp p).length = (QR K).toNat := fun p hp => by have := (hc p hp).1; omega
  have hcast : (((QR K).toNat : Nat) : Int) = QR K := by omega
  have hcf : Yl (QR K).toNat (row.flatMap Qp) = row := chunk_flat (M := M) (by omega) row (fun p hp => by rw [hcast]; exact hc p hp)
  unfold Yg Zn
  split
  · rename_i hK
    have e1 : (QR K).toNat = 1 := by rw [hK]; rfl
    have hlen : (row.flatMap Qp).length = W := by rw [Zw row hl, e1, Nat.mul_one, hr]
    have hb : ∀ x ∈ row.flatMap Qp, ZD x := fun x hx => by
      obtain ⟨p, hp, hx⟩ := List.mem_flatMap.1 hx
      have := (hc p hp).2.2 x hx
      have := h4 hK
      unfold ZD; omega
    have := ubits_packB hb
    rw [hlen] at this
    rw [this, hcf]
  · rw [smps_enc hw, hcf]
theorem raw_back {K M : Int} {W Hn : Nat} (hW : 0 < W) (hH : 0 < Hn) (h4 : K = 4 → M = 1) {px : List Int} (hl : px.length = W * Hn) (hc : ∀ p ∈ px, Can (QR K) M p) (b : List Int) (hb : b.length = QE K W (Qg M)) (e : Int) :
    YV K W (Hn : Int) M (Xl K W (Qg M) px Hn) ⟨b, 0, 0, 0, e⟩ [] = (px, 0) := by
  have hw := Q1 M
  have hch : QR K = 1 ∨ QR K = 3 := by unfold QR; split <;> simp
  have hrl : ∀ y, y < Hn → ((px.drop (y * W)).take W).length = W := fun y hy => by
    rw [List.length_take, List.length_drop, hl]
    have : (y + 1) * W ≤ Hn * W := Nat.mul_le_mul_right _ hy
    rw [Nat.add_mul, Nat.one_mul, Nat.mul_comm Hn] at this
    omega
  have hrc : ∀ y, ∀ p ∈ (px.drop (y * W)).take W, Can (QR K) M p := fun y p hp => hc p (List.mem_of_mem_drop (List.mem_of_mem_take hp))
  have hst : 0 < QE K W (Qg M) := by
    unfold QE
    split
    · omega
    · exact Nat.mul_pos (Nat.mul_pos hW (by omega)) (by omega)
  have hrows : ∀ r ∈ ZU K W (Qg M) px Hn, r.length = QE K W (Qg M) ∧ (K ≠ 4 → ∀ i, i < r.length / Qg M → Xx (Qg M) r i ≤ M) := fun r hr => by
    obtain ⟨y, hy, rfl⟩ := List.mem_map.1 hr
    rw [List.mem_range] at hy
    refine ⟨row_len hw (hrl y hy) (hrc y), fun hK i hi => ?_⟩
    unfold Zn at hi ⊢
    rw [if_neg hK] at hi ⊢
    rw [Vu hw] at hi
    have hi2 : i < (((px.drop (y * W)).take W).flatMap Qp).length := by
      rcases hw with hw | hw <;> rw [hw] at hi <;> omega
    rw [enc_at hw _ i hi2]
    obtain ⟨p, hp, hx⟩ := List.mem_flatMap.1 (List.getElem_mem hi2)
    exact ((hrc y p hp).2.2 _ hx).2
  have hne : ZU K W (Qg M) px Hn ≠ [] := fun e => by have := congrArg List.length e; simp [ZU] at this; omega
  have h := rows_feed (K := K) (H := (Hn : Int)) (M := M) (W := W) hst _ hrows hne 0 e b [] hb (by simp [ZU])
  unfold Xl
  rw [h]
  simp only [List.nil_append]
  congr 1
  have hmap : (ZU K W (Qg M) px Hn).map (Yg K W (Qg M)) = (List.range Hn).map fun y => (px.drop (y * W)).take W := by
    unfold ZU
    rw [List.map_map]
    refine List.map_congr_left fun y hy => ?_
    rw [List.mem_range] at hy
    exact row_back hw h4 (hrl y hy) (hrc y)
  rw [hmap]
  have key : ∀ n, n ≤ Hn → ((List.range n).map fun y => (px.drop (y * W)).take W).flatten = px.take (n * W) := by
    intro n
    induction n with
    | zero => simp
    | succ n ih =>
      intro hn
      rw [List.range_succ, List.map_append, List.flatten_append, ih (by omega), Nat.add_mul, Nat.one_mul, List.take_add]
      simp
  rw [key Hn (Nat.le_refl _), List.take_of_length_le (by rw [hl, Nat.mul_comm]; omega)]


def eightF (b : Int) (k j : Nat) : Value := .int .i64 (if j < k then b / 2 ^ (7 - j) % 2 else 0)
def eightK (b : Int) (k : Nat) : List Value := [eightF b k 0, eightF b k 1, eightF b k 2, eightF b k 3, eightF b k 4, eightF b k 5, eightF b k 6, eightF b k 7]
theorem eightK_set (b : Int) {k : Nat} (h : k < 8) : (eightK b k).set k (.int .i64 (b / 2 ^ (7 - k) % 2)) = eightK b (k + 1) := by
  obtain rfl | rfl | rfl | rfl | rfl | rfl | rfl | rfl : k = 0 ∨ k = 1 ∨ k = 2 ∨ k = 3 ∨ k = 4 ∨ k = 5 ∨ k = 6 ∨ k = 7 := by omega
  all_goals rfl
theorem eight_at (b : Int) {j : Nat} (h : j < 8) : (eightK b 8)[j]? = some (.int .i64 (b / 2 ^ (7 - j) % 2)) := by
  obtain rfl | rfl | rfl | rfl | rfl | rfl | rfl | rfl : j = 0 ∨ j = 1 ∨ j = 2 ∨ j = 3 ∨ j = 4 ∨ j = 5 ∨ j = 6 ∨ j = 7 := by omega
  all_goals rfl
theorem bitAt_at {bs : List Int} {k j : Nat} (hk : k < bs.length) (hj : j < 8) : bitAt bs (8 * k + j) = bs[k] / 2 ^ (7 - j) % 2 := by
  unfold bitAt
  rw [show (8 * k + j) / 8 = k by omega, show (8 * k + j) % 8 = j by omega, List.getElem?_eq_getElem hk]
  rfl
theorem ubits_len (bs : List Int) (n : Nat) : (YH bs n).length = n := by simp [YH]
theorem ubits_snoc (bs : List Int) (n : Nat) : YH bs n ++ [bitAt bs n] = YH bs (n + 1) := by simp [YH, List.range_succ]
theorem two_pos (k : Nat) : (0 : Int) < 2 ^ k := by exact_mod_cast Nat.two_pow_pos k
structure NmX where
  (k : Nat) (m : List HP)
structure JmX where
  (j : Nat) (m : List HP)

end Go.Proofs.YtggamdlpiejbiaaGreat
