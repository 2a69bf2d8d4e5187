/- Walks and plain laws, a part of the proof of ImageCuts: every input that the law's guards let in, no condition beside. -/
import Derived.Test.YtggamdlpiejbiaaGreatM26
namespace Go.Proofs.YtggamdlpiejbiaaGreat
open Go.RowKit Go.Shelf

instance : AeqT Tryz.prog 98 4 := ⟨by kernel_rfl, by kernel_rfl, by kernel_rfl, by kernel_rfl, by kernel_rfl⟩

theorem kindsF_bad {C M : Int} (h : ¬ YY C M) : Q4 C M = [] := if_neg h
theorem kindsF_3 {C M : Int} (h : YY C M) (h3 : C = 3) : Q4 C M = [3, 6] := by
  subst h3
  rw [Q4, if_pos h]
  have : kUp 3 M 7 = [3, 6] := by simp [kUp, kP, List.range_succ]
  exact this
theorem kindsF_1 {C M : Int} (h : YY C M) (h3 : ¬ C = 3) (h1 : M = 1) : Q4 C M = [1, 2, 4, 5] := by
  subst h1
  rw [Q4, if_pos h]
  simp [kUp, kP, List.range_succ, h3]
theorem kindsF_2 {C M : Int} (h : YY C M) (h3 : ¬ C = 3) (h1 : ¬ M = 1) : Q4 C M = [2, 5] := by
  rw [Q4, if_pos h]
  simp [kUp, kP, List.range_succ, h3, h1]

theorem Vs {g T m : Nat} {cs : List Value} {l F : List HP} (hm : cs.length = m) (h : m ≤ 1000) (he : Ent l (QK g cs T :: F)) : Ent l (QX T 1 (some ⟨g, 0, none⟩) m m cs :: F) := he.trans (Ent.own_blkS (by omega) (by omega))

theorem iKinds_spec (C M : Int) : Fn Tryz.prog 44 #[.agg #[.int .i64 C, .int .i64 M]] [] (fun v l => ∃ a c, v = .slice a (Q4 C M).length c ∧ l = [QX 3 1 a c (Q4 C M).length (Q5 (Q4 C M))]) := by
 refine Ql (vs := [.agg #[.int .i64 C, .int .i64 M]]) Tryz.func44 rfl Tryz.ntmps44 rfl (Qb (Qa (Q2 rfl rfl rfl ?_)))
 intro g1
 refine Qd rfl rfl (WpL.nil (Qb (Wp.block ?_)))
 refine Qb (Qa ?_)
 refine Qw (vs := [_, _]) rfl rfl rfl (by rfl) ?_
 refine Qi rfl rfl (by repeat' constructor) (ZC _ _) ?_
 rintro _ _ ⟨rfl, rfl⟩
 simp only [Qs]
 refine XV rfl rfl (Qd rfl rfl (WpL.nil (Qj rfl (fun h0 => ?_) (fun h0 => ?_))))
 ·refine Qb (Qa (Qd rfl rfl (WpL.nil (Qh ?_))))
  apply RetQ.mk
  ·exact (Res.one rfl rfl)
  ·exact ⟨none, 0, by rw [kindsF_bad (by assumption)]; rfl, rfl⟩
  ·rw [kindsF_bad (by assumption)]
   exact Ent.own_nil (Ent.nil _)
 ·have hf := Classical.not_not.1 h0
  refine Qb (Qa (Qk (o2 := 0) rfl rfl rfl (Qn rfl rfl (by rfl) ?_)))
  refine QH rfl rfl rfl (Qd rfl rfl (WpL.nil (Qj rfl (fun h1 => ?_) (fun h1 => ?_))))
  ·refine Qb (Qa ?_)
   refine s_bs2 rfl rfl rfl rfl rfl rfl ?_
   intro gK
   refine Qd rfl rfl (WpL.nil (Qh ?_))
   apply RetQ.mk
   ·exact (Res.one rfl rfl)
   ·exact ⟨some ⟨gK, 0, none⟩, 2, by rw [kindsF_3 (by assumption) (by assumption)]; rfl, rfl⟩
   ·rw [kindsF_3 (by assumption) (by assumption)]
    exact Vs rfl (by decide) (Take.ent' (by repeat' constructor))
  ·refine Qb (Qa (Qk (o2 := 1) rfl rfl rfl (Qn rfl rfl (by rfl) ?_)))
   refine QH rfl rfl rfl (Qd rfl rfl (WpL.nil (Qj rfl (fun h2 => ?_) (fun h2 => ?_))))
   ·refine Qb (Qa ?_)
    refine s_bs4 rfl rfl rfl rfl rfl rfl rfl rfl rfl rfl ?_
    intro gK
    refine Qd rfl rfl (WpL.nil (Qh ?_))
    apply RetQ.mk
    ·exact (Res.one rfl rfl)
    ·exact ⟨some ⟨gK, 0, none⟩, 4, by rw [kindsF_1 (by assumption) (by assumption) (by assumption)]; rfl, rfl⟩
    ·rw [kindsF_1 (by assumption) (by assumption) (by assumption)]
     exact Vs rfl (by decide) (Take.ent' (by repeat' constructor))
   ·refine Wp.skip (Qb (Qa ?_))
    refine s_bs2 rfl rfl rfl rfl rfl rfl ?_
    intro gK
    refine Qd rfl rfl (WpL.nil (Qh ?_))
    apply RetQ.mk
    ·exact (Res.one rfl rfl)
    ·exact ⟨some ⟨gK, 0, none⟩, 2, by rw [kindsF_2 (by assumption) (by assumption) (by assumption)]; rfl, rfl⟩
    ·rw [kindsF_2 (by assumption) (by assumption) (by assumption)]
     exact Vs rfl (by decide) (Take.ent' (by repeat' constructor))

theorem sIndex_spec (As : List HP) (a : Option Addr) (c : Nat) (zs : List Int) (x : Int) (hA : RdsL As a (Q5 zs)) (hl : zs.length ≤ 1000000000) : Fn Tryz.prog 147 #[.slice a zs.length c, .int .i64 x] As (fun v l => ∃ r : Int, v = .int .i64 r ∧ (0 ≤ r ↔ x ∈ zs) ∧ l = As) := by
 refine Ql (vs := [.slice a zs.length c, .int .i64 x]) Tryz.func147 rfl Tryz.ntmps147 rfl (Qb (Qa (Qd rfl rfl (WpL.nil (Qb (Qb (Qa (Qc rfl rfl (QO rfl rfl (Qc rfl rfl (WpL.nil (Wp.block ?_))))))))))))
 refine Wp.loopD (σ := Nat) (fun k => k ≤ zs.length ∧ x ∉ zs.take k) [4, 5, 8, 9, 10, 11, 12, 13, 14, 15, 16, 17, 18] (fun k => [(8, .int .i64 (k : Int))]) (fun _ => _) (fun k => zs.length - k) 0 ?_ (by repeat (first | exact FrLe.nil | refine FrLe.cons rfl ?_)) (Ent.refl _) ?_
 ·exact ⟨Nat.zero_le _, by simp⟩
 ·rintro k ⟨hk, hf⟩
  refine Qb (Qa (Q8 rfl rfl rfl (WpL.nil (Qb (Qj rfl (fun h1 => ?_) (fun h1 => ?_))))))
  ·have hlt : k < zs.length := by omega
   refine Wp.skip (Qb (Wp.block ?_))
   refine Qb (Qa (Qc rfl rfl (Qd rfl rfl (WpL.nil (Qb (Qa (Qc rfl rfl (Qc rfl rfl (Qc rfl rfl (Xg k rfl rfl rfl hA (Ent.refl _) rfl (by omega) (by rw [Xf]; omega) ?_))))))))))
   refine Xk rfl rfl hA (Ent.refl _) (XA zs hlt) ?_
   refine QH rfl rfl rfl (WpL.nil (Qj rfl (fun h2 => ?_) (fun h2 => ?_)))
   ·refine Qb (Qa (Qc rfl rfl (Qd rfl rfl (WpL.nil (Qh ?_)))))
    apply RetQ.mk
    ·exact (Res.one rfl rfl)
    ·exact ⟨_, rfl, ⟨fun _ => h2 ▸ List.getElem_mem hlt, fun _ => by omega⟩, rfl⟩
    ·exact Ent.refl _
   ·refine Wp.skip (Qa (QA rfl rfl rfl (Qo (by omega) (by omega)) ?_))
    refine Qc rfl rfl (WpL.nil (Qq (k + 1) ?_ ?_ (by ((repeat (first | exact Top.refl | refine Top.push rfl ?_)); done)) (by repeat (first | exact FrLe.nil | refine FrLe.cons rfl ?_)) ?_))
    ·refine ⟨by omega, fun hp => ?_⟩
     rw [List.take_succ_eq_append_getElem hlt] at hp
     rcases List.mem_append.1 hp with hp | hp
     ·exact hf hp
     ·exact h2 (List.mem_singleton.1 hp)
    ·omega
    ·exact Ent.refl _
  ·refine QP (Qb (Qa (Qd rfl rfl (WpL.nil (Qh ?_)))))
   apply RetQ.mk
   ·exact (Res.one rfl rfl)
   ·have hke : k = zs.length := by omega
    rw [hke, List.take_length] at hf
    exact ⟨_, rfl, ⟨fun h => by omega, fun h => absurd h hf⟩, rfl⟩
   ·exact Ent.refl _

theorem sContains_spec (As : List HP) (a : Option Addr) (c : Nat) (zs : List Int) (x : Int) (hA : RdsL As a (Q5 zs)) (hl : zs.length ≤ 1000000000) : Fn Tryz.prog 92 #[.slice a zs.length c, .int .i64 x] As (fun v l => v = .bool (decide (x ∈ zs)) ∧ l = As) := by
 refine Ql (vs := [.slice a zs.length c, .int .i64 x]) Tryz.func92 rfl Tryz.ntmps92 rfl (Qb (Qa (Qd rfl rfl (WpL.nil (Qb (Qa (Qc rfl rfl (Qc rfl rfl (Qi rfl rfl Take.all (sIndex_spec As a c zs x hA hl) ?_)))))))))
 rintro _ _ ⟨ri, rfl, hri, rfl⟩
 rw [List.append_nil]
 refine s_ge rfl rfl rfl (Qd rfl rfl (WpL.nil (Qh ?_)))
 apply RetQ.mk
 ·exact (Res.one rfl rfl)
 ·exact ⟨congrArg Value.bool (decide_eq_decide.2 hri), rfl⟩
 ·exact Ent.refl _

theorem rcSized_spec (w h : Int) : Fn Tryz.prog 172 #[.int .i64 w, .int .i64 h] [] (fun v l => v = .bool (decide (XR w h)) ∧ l = []) := by
 refine Ql (vs := [.int .i64 w, .int .i64 h]) Tryz.func172 rfl Tryz.ntmps172 rfl (Qb (Qa (Qd rfl rfl (WpL.nil (Qb (Qa (Qc rfl rfl (s_ge rfl rfl rfl (Qc rfl rfl (QN rfl rfl rfl (fun hg1 => ?_) (fun hg1 => ?_)))))))))))
 ·have hg1 := of_decide_eq_true hg1
  refine Qc rfl rfl (Qf rfl rfl (VE rfl rfl rfl (Qr rfl rfl rfl (Qc rfl rfl (QN rfl rfl rfl (fun hg2 => ?_) (fun hg2 => ?_))))))
  ·have hg2 := of_decide_eq_true hg2
   refine Qc rfl rfl (Qf rfl rfl (s_ge rfl rfl rfl (Qr rfl rfl rfl (Qc rfl rfl (QN rfl rfl rfl (fun hg3 => ?_) (fun hg3 => ?_))))))
   ·have hg3 := of_decide_eq_true hg3
    refine Qc rfl rfl (Qf rfl rfl (VE rfl rfl rfl (Qr rfl rfl rfl (Qc rfl rfl (QN rfl rfl rfl (fun hg4 => ?_) (fun hg4 => ?_))))))
    ·have hg4 := of_decide_eq_true hg4
     have hmb := sz_mul (w := w) (h := h) (by omega) (by omega)
     refine Qc rfl rfl (Qf rfl rfl (Qc rfl rfl (Qf rfl rfl (Xv rfl rfl rfl (Qo (by omega) (by omega)) ?_))))
     refine Qf rfl rfl (VE rfl rfl rfl (Qr rfl rfl rfl (Qd rfl rfl (WpL.nil (Qh ?_)))))
     apply RetQ.mk
     ·exact (Res.one rfl rfl)
     ·exact ⟨congrArg Value.bool (decide_eq_decide.2 (by unfold XR; omega)), rfl⟩
     ·exact Ent.refl _
    ·have hg4 := of_decide_eq_false hg4
     refine Qe rfl rfl rfl (by decide) (Qe rfl rfl rfl (by decide) (Qe rfl rfl rfl (by decide) (Qt rfl rfl rfl (Qd rfl rfl (WpL.nil (Qh ?_))))))
     apply RetQ.mk
     ·exact (Res.one rfl rfl)
     ·exact ⟨by rw [decide_eq_false (show ¬XR w h by unfold XR; omega)], rfl⟩
     ·exact Ent.refl _
   ·have hg3 := of_decide_eq_false hg3
    refine Qe rfl rfl rfl (by decide) (Qt rfl rfl rfl (Qc rfl rfl (Qe rfl rfl rfl (by decide) (Qe rfl rfl rfl (by decide) (Qe rfl rfl rfl (by decide) (Qe rfl rfl rfl (by decide) (Qt rfl rfl rfl (Qd rfl rfl (WpL.nil (Qh ?_))))))))))
    apply RetQ.mk
    ·exact (Res.one rfl rfl)
    ·exact ⟨by rw [decide_eq_false (show ¬XR w h by unfold XR; omega)], rfl⟩
    ·exact Ent.refl _
  ·have hg2 := of_decide_eq_false hg2
   refine Qe rfl rfl rfl (by decide) (Qt rfl rfl rfl (Qc rfl rfl (Qe rfl rfl rfl (by decide) (Qe rfl rfl rfl (by decide) (Qt rfl rfl rfl (Qc rfl rfl (Qe rfl rfl rfl (by decide) (Qe rfl rfl rfl (by decide) (Qe rfl rfl rfl (by decide) (Qe rfl rfl rfl (by decide) (Qt rfl rfl rfl (Qd rfl rfl ?_))))))))))))
   refine WpL.nil (Qh ?_)
   apply RetQ.mk
   ·exact (Res.one rfl rfl)
   ·exact ⟨by rw [decide_eq_false (show ¬XR w h by unfold XR; omega)], rfl⟩
   ·exact Ent.refl _
 ·have hg1 := of_decide_eq_false hg1
  refine Qe rfl rfl rfl (by decide) (Qt rfl rfl rfl (Qc rfl rfl (Qe rfl rfl rfl (by decide) (Qe rfl rfl rfl (by decide) (Qt rfl rfl rfl (Qc rfl rfl (Qe rfl rfl rfl (by decide) (Qe rfl rfl rfl (by decide) (Qt rfl rfl rfl (Qc rfl rfl (Qe rfl rfl rfl (by decide) (Qe rfl rfl rfl (by decide) ?_))))))))))))
  refine Qe rfl rfl rfl (by decide) (Qe rfl rfl rfl (by decide) (Qt rfl rfl rfl (Qd rfl rfl (WpL.nil (Qh ?_)))))
  apply RetQ.mk
  ·exact (Res.one rfl rfl)
  ·exact ⟨by rw [decide_eq_false (show ¬XR w h by unfold XR; omega)], rfl⟩
  ·exact Ent.refl _

theorem rcMay_spec (W H : Int) (a : Option Addr) (n c : Nat) : Fn Tryz.prog 129 #[.agg #[.int .i64 W, .int .i64 H, .slice a n c]] [] (fun v l => v = .bool (decide (XR W H ∧ (n : Int) = W * H)) ∧ l = []) := by
 refine Ql (vs := [.agg #[.int .i64 W, .int .i64 H, .slice a n c]]) Tryz.func129 rfl Tryz.ntmps129 rfl (Qb (Qa (Q2 rfl rfl rfl ?_)))
 intro g1
 refine Qd rfl rfl (WpL.nil (Qb (Qa (Qk (o2 := 0) rfl rfl rfl (Qn rfl rfl (by rfl) ?_)))))
 refine Qk (o2 := 1) rfl rfl rfl (Qn rfl rfl (by rfl) ?_)
 refine Qi rfl rfl (by repeat' constructor) (rcSized_spec _ _) ?_
 rintro _ _ ⟨rfl, rfl⟩
 simp only [Qs]
 refine Qc rfl rfl (QN rfl rfl rfl (fun hg1 => ?_) (fun hg1 => ?_))
 ·have hg1 := of_decide_eq_true hg1
  have hsz2 := hg1
  unfold XR at hsz2
  have hmb := sz_mul hsz2.1 hsz2.2.1
  refine Qk (o2 := 2) rfl rfl rfl (Qf rfl rfl (Qn rfl rfl (by rfl) ?_))
  refine Qf rfl rfl (QO rfl rfl (Qf rfl rfl (Qk (o2 := 0) rfl rfl rfl (Qf rfl rfl (Qn rfl rfl (by rfl) ?_)))))
  refine Qf rfl rfl (Qk (o2 := 1) rfl rfl rfl (Qf rfl rfl (Qn rfl rfl (by rfl) ?_)))
  refine Qf rfl rfl (Xv rfl rfl rfl (Qo (by omega) (by omega)) ?_)
  refine Qf rfl rfl (QH rfl rfl rfl (Qr rfl rfl rfl (Qd rfl rfl (WpL.nil (Qh ?_)))))
  apply RetQ.mk
  ·exact (Res.one rfl rfl)
  ·exact ⟨congrArg Value.bool (decide_eq_decide.2 ⟨fun q => ⟨hg1, q⟩, fun q => q.2⟩), rfl⟩
  ·exact Ent.nil _
 ·have hg1 := of_decide_eq_false hg1
  refine Qe rfl rfl rfl (by decide) (Qe rfl rfl rfl (by decide) (Qe rfl rfl rfl (by decide) (Qe rfl rfl rfl (by decide) (Qe rfl rfl rfl (by decide) (Qe rfl rfl rfl (by decide) (Qe rfl rfl rfl (by decide) (Qe rfl rfl rfl (by decide) (Qt rfl rfl rfl (Qd rfl rfl (WpL.nil (Qh ?_)))))))))))
  apply RetQ.mk
  ·exact (Res.one rfl rfl)
  ·exact ⟨by rw [decide_eq_false (fun q => hg1 q.1)], rfl⟩
  ·exact Ent.nil _

end Go.Proofs.YtggamdlpiejbiaaGreat
namespace Go.Proofs.YtggamdlpiejbiaaGreat
open Go.RowKit Go.Shelf

theorem OddF_spec (g : Nat) (p ch mx : Int) (h0 : 0 ≤ p) (h1 : p < 18446744073709551616) : Fn Tryz.prog 131 #[.int .u64 p, .pointer (some ⟨g, 0, none⟩)] [QK g [.int .i64 ch, .int .i64 mx] 48] (fun v l => v = .bool (!decide (Yw p ch mx)) ∧ l = [QK g [.int .i64 ch, .int .i64 mx] 48]) := by
 refine Ql (vs := [.int .u64 p, .pointer (some ⟨g, 0, none⟩)]) Tryz.func131 rfl Tryz.ntmps131 rfl ?_
 refine Qb (Qa (Qd rfl rfl (WpL.nil (Qb (Qa (Qc rfl rfl ?_))))))
 refine Qw (vs := [_, _]) rfl rfl rfl (by rfl) ?_
 refine Qi rfl rfl (by repeat' constructor) (Fits_spec _ _ _ h0 h1) ?_
 rintro _ _ ⟨rfl, rfl⟩
 simp only [Qs]
 refine Zp rfl rfl (Qd rfl rfl (WpL.nil (Qh ?_)))
 apply RetQ.mk
 ·exact (Res.one rfl rfl)
 ·exact ⟨rfl, rfl⟩
 ·exact Ent.refl _

theorem IndexOddF_spec (As : List HP) (a0 : Option Addr) (c0 : Nat) (px : List Int) (hA : RdsL As a0 (XQ px)) (hr : ∀ p ∈ px, 0 ≤ p ∧ p < 18446744073709551616) (hl : px.length ≤ 9223372036854775807) (g : Nat) (ch mx : Int) : Fn Tryz.prog 173 #[.slice a0 px.length c0, .func (.func 131) #[] #[.pointer (some ⟨g, 0, none⟩)]] (QK g [.int .i64 ch, .int .i64 mx] 48 :: As) (fun v l => ∃ r : Int, v = .int .i64 r ∧ (0 ≤ r ↔ ¬ ∀ p ∈ px, Yw p ch mx) ∧ l = QK g [.int .i64 ch, .int .i64 mx] 48 :: As) := by
 refine Ql (vs := [.slice a0 px.length c0, .func (.func 131) #[] #[.pointer (some ⟨g, 0, none⟩)]]) Tryz.func173 rfl Tryz.ntmps173 rfl ?_
 refine Qb (Qa (Qd rfl rfl (WpL.nil (Qb (Qb (Qa (Qc rfl rfl (QO rfl rfl (Qc rfl rfl (WpL.nil (Wp.block ?_)))))))))))
 refine Wp.loopD (σ := Nat) (fun k => k ≤ px.length ∧ ∀ p ∈ px.take k, Yw p ch mx) [4, 5, 8, 9, 10, 11, 12, 13, 14, 15, 16, 17, 18] (fun k => [(8, .int .i64 (k : Int))]) (fun k => QK g [.int .i64 ch, .int .i64 mx] 48 :: As) (fun k => px.length - k) 0 ?_ (by repeat (first | exact FrLe.nil | refine FrLe.cons rfl ?_)) ?_ ?_
 ·exact ⟨Nat.zero_le _, by simp⟩
 ·exact Ent.refl _
 ·rintro k ⟨hk, hf⟩
  refine Qb (Qa (Q8 rfl rfl rfl (WpL.nil (Qb (Qj rfl (fun h1 => ?_) (fun h1 => ?_))))))
  ·have hlt : k < px.length := by omega
   have hpb := hr _ (List.getElem_mem hlt)
   refine Wp.skip (Qb (Wp.block ?_))
   refine Qb (Qa (Qc rfl rfl (Qd rfl rfl (WpL.nil (Qb (Qa (Qc rfl rfl (Qc rfl rfl (Qc rfl rfl (Xg k rfl rfl rfl hA (Ent.drop (Ent.refl _)) rfl (by omega) (by rw [Yh]; omega) ?_))))))))))
   refine Xk rfl rfl hA (Ent.drop (Ent.refl _)) (Y6 px hlt) ?_
   refine Yv (u := []) (c := [.pointer (some ⟨g, 0, none⟩)]) rfl rfl rfl rfl (by repeat' constructor) (OddF_spec g _ ch mx hpb.1 hpb.2) ?_
   rintro _ _ ⟨rfl, rfl⟩
   simp only [Qs]
   refine WpL.nil (XZ rfl (fun h2 => ?_) (fun h2 => ?_))
   ·refine Qb (Qa (Qc rfl rfl (Qd rfl rfl (WpL.nil (Qh ?_)))))
    apply RetQ.mk
    ·exact (Res.one rfl rfl)
    ·exact ⟨_, rfl, ⟨fun _ hall => (by have := hall _ (List.getElem_mem hlt); rw [decide_eq_true this] at h2; cases h2), fun _ => (by omega)⟩, rfl⟩
    ·exact Ent.refl _
   ·refine Wp.skip (Qa (QA rfl rfl rfl (Qo (by omega) (by omega)) ?_))
    refine Qc rfl rfl (WpL.nil (Qq (k + 1) ?_ ?_ (by ((repeat (first | exact Top.refl | refine Top.push rfl ?_)); done)) (by repeat (first | exact FrLe.nil | refine FrLe.cons rfl ?_)) ?_))
    ·refine ⟨by omega, fun p hp => ?_⟩
     rw [Xo px hlt] at hp
     rcases List.mem_append.1 hp with hp | hp
     ·exact hf p hp
     ·have := List.mem_singleton.1 hp; subst this; simpa using h2
    ·omega
    ·exact Ent.refl _
  ·refine QP (Qb (Qa (Qd rfl rfl (WpL.nil (Qh ?_)))))
   apply RetQ.mk
   ·exact (Res.one rfl rfl)
   ·have hke : k = px.length := by omega
    rw [hke, List.take_length] at hf
    exact ⟨_, rfl, ⟨fun h => by omega, fun h => absurd hf h⟩, rfl⟩
   ·exact Ent.refl _

theorem ContainsOddF_spec (As : List HP) (a0 : Option Addr) (c0 : Nat) (px : List Int) (hA : RdsL As a0 (XQ px)) (hr : ∀ p ∈ px, 0 ≤ p ∧ p < 18446744073709551616) (hl : px.length ≤ 9223372036854775807) (g : Nat) (ch mx : Int) : Fn Tryz.prog 130 #[.slice a0 px.length c0, .func (.func 131) #[] #[.pointer (some ⟨g, 0, none⟩)]] (QK g [.int .i64 ch, .int .i64 mx] 48 :: As) (fun v l => v = .bool (decide (¬ ∀ p ∈ px, Yw p ch mx)) ∧ l = QK g [.int .i64 ch, .int .i64 mx] 48 :: As) := by
 refine Ql (vs := [.slice a0 px.length c0, .func (.func 131) #[] #[.pointer (some ⟨g, 0, none⟩)]]) Tryz.func130 rfl Tryz.ntmps130 rfl ?_
 refine Qb (Qa (Qd rfl rfl (WpL.nil (Qb (Qa (Qc rfl rfl (Qc rfl rfl (Qi rfl rfl Take.all (IndexOddF_spec As a0 c0 px hA hr hl g ch mx) ?_))))))))
 rintro _ _ ⟨ri, rfl, hri, rfl⟩
 rw [List.append_nil]
 refine s_ge rfl rfl rfl (Qd rfl rfl (WpL.nil (Qh ?_)))
 apply RetQ.mk
 ·exact (Res.one rfl rfl)
 ·exact ⟨congrArg Value.bool (by rw [decide_eq_decide]; exact hri), rfl⟩
 ·exact Ent.refl _

theorem rcFits_spec (As : List HP) (W H : Int) (a : Option Addr) (c : Nat) (px : List Int) (C M : Int) (hA : RdsL As a (XQ px)) (hb : ∀ p ∈ px, 0 ≤ p ∧ p < 18446744073709551616) (hl : px.length ≤ 9223372036854775807) : Fn Tryz.prog 85 #[.agg #[.int .i64 W, .int .i64 H, .slice a px.length c], .agg #[.int .i64 C, .int .i64 M]] As (fun v l => v = .bool (decide (YJ C M W H px)) ∧ l = As) := by
 refine Ql (vs := [.agg #[.int .i64 W, .int .i64 H, .slice a px.length c], .agg #[.int .i64 C, .int .i64 M]]) Tryz.func85 rfl Tryz.ntmps85 rfl (Qb (Qa (Q2 rfl rfl rfl ?_)))
 intro gM
 refine Q2 rfl rfl rfl ?_
 intro gF
 refine Qd rfl rfl (WpL.nil (Qb (Qa ?_)))
 refine Qw (vs := [_, _, _]) rfl rfl rfl (by rfl) ?_
 refine Qi rfl rfl (by repeat' constructor) (rcMay_spec _ _ _ _ _) ?_
 rintro _ _ ⟨rfl, rfl⟩
 simp only [Qs]
 refine Qc rfl rfl (QN rfl rfl rfl (fun hg1 => ?_) (fun hg1 => ?_))
 ·have hg1 := of_decide_eq_true hg1
  refine Qk (o2 := 2) rfl rfl rfl (Qf rfl rfl (Qn rfl rfl (by rfl) ?_))
  refine Qf rfl rfl (s_mkf rfl (fun a hh => Ys hh _ _ rfl) ?_)
  refine Qf rfl rfl (Qi rfl rfl (Take.cons .here (Take.skip Take.all)) (ContainsOddF_spec As a c px hA hb hl gF C M) ?_)
  rintro _ _ ⟨rfl, rfl⟩
  rw [show (QK gF [.int .i64 C, .int .i64 M] 48 :: As) ++ [QK gM [.int .i64 W, .int .i64 H, .slice a px.length c] 77] = QK gF [.int .i64 C, .int .i64 M] 48 :: (As ++ [QK gM [.int .i64 W, .int .i64 H, .slice a px.length c] 77]) from rfl]
  refine Qf rfl rfl (XV rfl rfl (Qr rfl rfl rfl (Qd rfl rfl (WpL.nil (Qh ?_)))))
  apply RetQ.mk
  ·exact (Res.one rfl rfl)
  ·exact ⟨congrArg Value.bool (decide_eq_decide.2 ⟨fun q => ⟨hg1.1, hg1.2, fun p hp => Classical.byContradiction fun z => q fun hall => z (hall p hp)⟩, fun q z => z q.2.2⟩), rfl⟩
  ·exact Ent.drop (Ent.left _ _)
 ·have hg1 := of_decide_eq_false hg1
  refine Qe rfl rfl rfl (by decide) (Qe rfl rfl rfl (by decide) (Qe rfl rfl rfl (by decide) (Qe rfl rfl rfl (by decide) (Qt rfl rfl rfl (Qd rfl rfl (WpL.nil (Qh ?_)))))))
  apply RetQ.mk
  ·exact (Res.one rfl rfl)
  ·exact ⟨by rw [decide_eq_false (fun q : YJ C M W H px => hg1 ⟨q.1, q.2.1⟩)], rfl⟩
  ·exact Ent.drop (Ent.drop (Ent.refl _))

theorem iMay_spec (As : List HP) (C M W H : Int) (a : Option Addr) (c : Nat) (px : List Int) (hA : RdsL As a (XQ px)) (hb : ∀ p ∈ px, 0 ≤ p ∧ p < 18446744073709551616) (hl : px.length ≤ 9223372036854775807) : Fn Tryz.prog 45 #[.agg #[.int .i64 C, .int .i64 M, .int .i64 W, .int .i64 H, .slice a px.length c]] As (fun v l => v = .bool (decide (YJ C M W H px)) ∧ l = As) := by
 refine Ql (vs := [.agg #[.int .i64 C, .int .i64 M, .int .i64 W, .int .i64 H, .slice a px.length c]]) Tryz.func45 rfl Tryz.ntmps45 rfl (Qb (Qa (Q2 rfl rfl rfl ?_)))
 intro g1
 refine Qd rfl rfl (WpL.nil (Qb (Qa (Qk (o2 := 2) rfl rfl rfl ?_))))
 refine Qw (vs := [_, _, _]) rfl rfl rfl (by rfl) ?_
 refine Qk (o2 := 0) rfl rfl rfl ?_
 refine Qw (vs := [_, _]) rfl rfl rfl (by rfl) ?_
 refine Qi rfl rfl (Zu [_] As) (rcFits_spec As W H a c px C M hA hb hl) ?_
 rintro _ _ ⟨rfl, rfl⟩
 refine Qd rfl rfl (WpL.nil (Qh ?_))
 apply RetQ.mk
 ·exact (Res.one rfl rfl)
 ·exact ⟨rfl, rfl⟩
 ·exact Ent.left _ _

theorem iHead_spec (As : List HP) (C M W H : Int) (a : Option Addr) (c : Nat) (px : List Int) (hA : RdsL As a (XQ px)) (hb : ∀ p ∈ px, 0 ≤ p ∧ p < 18446744073709551616) (hl : px.length ≤ 9223372036854775807) (k : Int) : Fn Tryz.prog 49 #[.agg #[.int .i64 C, .int .i64 M, .int .i64 W, .int .i64 H, .slice a px.length c], .int .i64 k] As (fun v l => ((k ∈ Q4 C M ∧ YJ C M W H px) ∧ v = .tuple #[.agg #[.int .i64 k, .int .i64 W, .int .i64 H, .int .i64 M], .int .i64 0] ∨ ¬ (k ∈ Q4 C M ∧ YJ C M W H px) ∧ v = .tuple #[.agg #[.int .i64 0, .int .i64 0, .int .i64 0, .int .i64 0], .int .i64 1]) ∧ l = As) := by
 refine Ql (vs := [.agg #[.int .i64 C, .int .i64 M, .int .i64 W, .int .i64 H, .slice a px.length c], .int .i64 k]) Tryz.func49 rfl Tryz.ntmps49 rfl (Qb (Qa (Q2 rfl rfl rfl ?_)))
 intro gI
 refine XH rfl ?_
 intro gH
 refine Qd rfl rfl (WpL.nil (Qb (Qb (Qa ?_))))
 refine Qw (vs := [_, _, _, _, _]) rfl rfl rfl (by rfl) ?_
 refine Qi rfl rfl (Zu [_, _] As) (iMay_spec As C M W H a c px hA hb hl) ?_
 rintro _ _ ⟨rfl, rfl⟩
 refine WpL.ent Ent.comm ?_
 simp only [Qs]
 refine XV rfl rfl (Qc rfl rfl (QN rfl rfl rfl (fun hg1 => ?_) (fun hg1 => ?_)))
 ·have hg1 := of_decide_eq_false hg1
  refine Qk (o2 := 0) rfl rfl rfl (Qf rfl rfl ?_)
  refine Qw (vs := [_, _]) rfl rfl rfl (by rfl) ?_
  refine Qf rfl rfl (Qi rfl rfl (by repeat' constructor) (iKinds_spec C M) ?_)
  rintro _ _ ⟨aK, cK, rfl, rfl⟩
  simp only [Qs]
  refine Qf rfl rfl (Qc rfl rfl (Qf rfl rfl (Qi rfl rfl (by repeat' constructor) (sContains_spec [QX 3 1 aK cK (Q4 C M).length (Q5 (Q4 C M))] aK cK (Q4 C M) k Q0 (by have := kinds_len (C := C) (M := M); omega)) ?_)))
  rintro _ _ ⟨rfl, rfl⟩
  simp only [Qs]
  refine Qf rfl rfl (XV rfl rfl (Qt rfl rfl rfl (WpL.nil (Qj rfl (fun h0 => ?_) (fun h0 => ?_)))))
  ·refine Qb (Qa ?_)
   refine Xu rfl rfl ?_
   refine QC rfl rfl rfl (by rfl) rfl ?_
   refine Qd rfl rfl (WpL.nil (Qh ?_))
   apply RetQ.mk
   ·exact (QI rfl rfl (by rfl) rfl)
   ·exact ⟨.inr ⟨fun q => (by assumption : ¬ k ∈ Q4 C M) q.1, rfl⟩, rfl⟩
   ·repeat (first | exact Ent.refl _ | refine Ent.drop ?_)
  ·refine Wp.skip (Qb (Qa (Qc rfl rfl (Qk (o2 := 2) rfl rfl rfl (Qk (o2 := 2) rfl rfl rfl (Qn rfl rfl (by rfl) ?_))))))
   refine Qk (o2 := 2) rfl rfl rfl (Qk (o2 := 3) rfl rfl rfl (Qn rfl rfl (by rfl) ?_))
   refine Qk (o2 := 0) rfl rfl rfl (Qk (o2 := 1) rfl rfl rfl (Qn rfl rfl (by rfl) ?_))
   refine Xu rfl rfl ?_
   refine QC rfl rfl rfl (by rfl) rfl ?_
   refine Qd rfl rfl (WpL.nil (Qh ?_))
   apply RetQ.mk
   ·exact (QI rfl rfl (by rfl) rfl)
   ·exact ⟨.inl ⟨⟨Classical.not_not.1 (by assumption), Classical.not_not.1 (by assumption)⟩, rfl⟩, rfl⟩
   ·repeat (first | exact Ent.refl _ | refine Ent.drop ?_)
 ·have hg1 := of_decide_eq_true hg1
  refine Qe rfl rfl rfl (by decide) (Qe rfl rfl rfl (by decide) (Qe rfl rfl rfl (by decide) (Qe rfl rfl rfl (by decide) (Qe rfl rfl rfl (by decide) (Qr rfl rfl rfl (WpL.nil (Xn rfl (Qb (Qa ?_)))))))))
  refine Xu rfl rfl ?_
  refine QC rfl rfl rfl (by rfl) rfl ?_
  refine Qd rfl rfl (WpL.nil (Qh ?_))
  apply RetQ.mk
  ·exact (QI rfl rfl (by rfl) rfl)
  ·exact ⟨.inr ⟨fun q => (by assumption : ¬ YJ C M W H px) q.2, rfl⟩, rfl⟩
  ·repeat (first | exact Ent.refl _ | refine Ent.drop ?_)

end Go.Proofs.YtggamdlpiejbiaaGreat
namespace Go.Proofs.YtggamdlpiejbiaaGreat
open Go.RowKit Go.Shelf

theorem readW_cons (K : Int) (W : Nat) (H M : Int) (c : Int) (bs : List Int) (s : RW) (acc : List Int) : YV K W H M (c :: bs) s acc = if (XK K W H M s c).1.last = 1 then (acc ++ (XK K W H M s c).2, 0) else if (XK K W H M s c).1.last = 2 then ([], (XK K W H M s c).1.e) else YV K W H M bs (XK K W H M s c).1 (acc ++ (XK K W H M s c).2) := rfl
theorem putW_st {K H M c : Int} {W : Nat} {s : RW} (hl : s.last = 0) : ((XK K W H M s c).1.last = 0 ∨ (XK K W H M s c).1.last = 1 ∨ (XK K W H M s c).1.last = 2) ∧ ((XK K W H M s c).1.last = 2 → (XK K W H M s c).1.e = 5 ∧ (XK K W H M s c).2 = []) := by
  unfold XK
  rw [if_neg (by omega)]
  repeat' split
  all_goals simp
theorem row_flat (row : List Int) (t : Int) : (atE (rowE row) t).flatMap (fun x => x.1.row) = row ∧ ∀ x ∈ atE (rowE row) t, x.1.k = 2 := by
  unfold atE rowE
  by_cases h : row = [] <;> simp [h]
theorem readW_run (l0 l1 l2 : Int) (h : HS) : ∀ (bs : List Int) (s : RW) (t imgs : Int) (acc : List Int), s.last = 0 →
    ((YV h.K h.W.toNat h.H h.M bs s acc).2 = 0 ∧ imgs < (XJ l0 l1 l2 ⟨some h, 2, .rw s, t, imgs, false, 0⟩ bs).1.imgs ∧ ∃ rows t' rest, (∀ x ∈ rows, x.1.k = 2) ∧ (XJ l0 l1 l2 ⟨some h, 2, .rw s, t, imgs, false, 0⟩ bs).2 = rows ++ dnE t' :: rest ∧ (YV h.K h.W.toNat h.H h.M bs s acc).1 = acc ++ rows.flatMap fun x => x.1.row) ∨
    ((YV h.K h.W.toNat h.H h.M bs s acc) = ([], 5) ∧ (XJ l0 l1 l2 ⟨some h, 2, .rw s, t, imgs, false, 0⟩ bs).1.e = 5 ∧ (XJ l0 l1 l2 ⟨some h, 2, .rw s, t, imgs, false, 0⟩ bs).1.imgs = imgs) ∨
    ((YV h.K h.W.toNat h.H h.M bs s acc) = ([], 6) ∧ (XJ l0 l1 l2 ⟨some h, 2, .rw s, t, imgs, false, 0⟩ bs).1.e = 0 ∧ (XJ l0 l1 l2 ⟨some h, 2, .rw s, t, imgs, false, 0⟩ bs).1.imgs = imgs)
  | [], s, t, imgs, acc, _ => .inr (.inr ⟨rfl, rfl, rfl⟩)
  | c :: bs, s, t, imgs, acc, hl => by
    have hq := put_rw l0 l1 l2 (h := h) (r := s) (told := t) (imgs := imgs) (c := c)
    have hr := run_evts l0 l1 l2 (bs := bs) hq
    have hst := putW_st (K := h.K) (W := h.W.toNat) (H := h.H) (M := h.M) (c := c) hl
    have hf := row_flat (XK h.K h.W.toNat h.H h.M s c).2 (t + 1)
    rw [readW_cons]
    rcases hst.1 with h0 | h1 | h2
    · rw [hr.1 h0, if_neg (by omega), if_neg (by omega)]
      rcases readW_run l0 l1 l2 h bs (XK h.K h.W.toNat h.H h.M s c).1 (t + 1) imgs (acc ++ (XK h.K h.W.toNat h.H h.M s c).2) h0 with ⟨g1, g2, rows, t', rest, g3, g4, g5⟩ | g | g
      · refine .inl ⟨g1, g2, atE (rowE (XK h.K h.W.toNat h.H h.M s c).2) (t + 1) ++ rows, t', rest, ?_, ?_, ?_⟩
        · intro x hx
          rcases List.mem_append.1 hx with hx | hx
          · exact hf.2 x hx
          · exact g3 x hx
        · show _ ++ _ = _
          rw [g4, List.append_assoc]
        · rw [g5, List.flatMap_append, hf.1, List.append_assoc]
      · exact .inr (.inl g)
      · exact .inr (.inr g)
    · rw [hr.2.1 h1, if_pos h1]
      refine .inl ⟨rfl, ?_, atE (rowE (XK h.K h.W.toNat h.H h.M s c).2) (t + 1), t + 1, (XJ l0 l1 l2 ⟨some h, 0, .no, t + 1, imgs + 1, false, 0⟩ bs).2, hf.2, ?_, ?_⟩
      · show _ < (XJ l0 l1 l2 ⟨some h, 0, .no, t + 1, imgs + 1, false, 0⟩ bs).1.imgs
        rw [Vy]
        have : 0 ≤ Vg ((XJ l0 l1 l2 ⟨some h, 0, .no, t + 1, imgs + 1, false, 0⟩ bs).2.map (·.1)) := by unfold Vg; omega
        show imgs < imgs + 1 + _
        omega
      · show (_ ++ [_]) ++ _ = _
        rw [List.append_assoc]; rfl
      · show acc ++ _ = acc ++ _
        rw [hf.1]
    · have he := (hst.2 h2).1
      rw [hr.2.2 h2 (by omega), if_neg (by omega), if_pos h2, he]
      exact .inr (.inl ⟨rfl, rfl, rfl⟩)
theorem readW_ind {K H M : Int} {W : Nat} : ∀ (bs : List Int) (b b' : List Int) (n : Nat) (rows e : Int) (acc : List Int), b.length = b'.length → n < b.length → b.take n = b'.take n → YV K W H M bs ⟨b, n, rows, 0, e⟩ acc = YV K W H M bs ⟨b', n, rows, 0, e⟩ acc
  | [], _, _, _, _, _, _, _, _, _ => rfl
  | c :: bs, b, b', n, rows, e, acc, hl, hn, ht => by
    have hs : (b.set n c).take (n + 1) = (b'.set n c).take (n + 1) := by
      rw [List.take_set, List.take_set, List.take_succ_eq_append_getElem hn, List.take_succ_eq_append_getElem (show n < b'.length by omega), ht, List.set_append_right _ _ (by rw [List.length_take]; omega), List.set_append_right _ _ (by rw [List.length_take]; omega)]
      rw [show n - (b'.take n).length = 0 by rw [List.length_take]; omega]
      rfl
    have hw := Q1 M
    have hsm : (n + 1) % Qg M = 0 → Xx (Qg M) (b.set n c) ((n + 1) / Qg M - 1) = Xx (Qg M) (b'.set n c) ((n + 1) / Qg M - 1) := fun hm => by
      have hx : ((n + 1) / Qg M - 1 + 1) * Qg M = n + 1 := by rcases hw with e | e <;> rw [e] at hm ⊢ <;> omega
      exact Vq hw hs (by omega)
    have hsl : (b.set n c).length = (b'.set n c).length := by rw [List.length_set, List.length_set, hl]
    have p : ∀ b : List Int, XK K W H M ⟨b, n, rows, 0, e⟩ c = (if K ≠ 4 ∧ (n + 1) % Qg M = 0 ∧ Xx (Qg M) (b.set n c) ((n + 1) / Qg M - 1) > M then (⟨b.set n c, n + 1, rows, 2, 5⟩, []) else if n + 1 < b.length then (⟨b.set n c, n + 1, rows, 0, e⟩, []) else (⟨b.set n c, 0, rows + 1, if rows + 1 = H then 1 else 0, e⟩, Yg K W (Qg M) (b.set n c))) := fun b => if_neg (by simp)
    rw [readW_cons, readW_cons, p b, p b']
    by_cases hb : K ≠ 4 ∧ (n + 1) % Qg M = 0 ∧ Xx (Qg M) (b.set n c) ((n + 1) / Qg M - 1) > M
    · have hb' : K ≠ 4 ∧ (n + 1) % Qg M = 0 ∧ Xx (Qg M) (b'.set n c) ((n + 1) / Qg M - 1) > M := ⟨hb.1, hb.2.1, by rw [← hsm hb.2.1]; exact hb.2.2⟩
      rw [if_pos hb, if_pos hb']
      rfl
    · have hb' : ¬ (K ≠ 4 ∧ (n + 1) % Qg M = 0 ∧ Xx (Qg M) (b'.set n c) ((n + 1) / Qg M - 1) > M) := fun q => hb ⟨q.1, q.2.1, by rw [hsm q.2.1]; exact q.2.2⟩
      rw [if_neg hb, if_neg hb']
      by_cases h1 : n + 1 < b.length
      · rw [if_pos h1, if_pos (show n + 1 < b'.length by omega)]
        simp only [show ¬ (0 : Int) = 1 by decide, show ¬ (0 : Int) = 2 by decide, if_false]
        exact readW_ind bs (b.set n c) (b'.set n c) (n + 1) rows e _ hsl (by rw [List.length_set]; exact h1) hs
      · have he : b.set n c = b'.set n c := by
          rw [List.take_of_length_le (by rw [List.length_set]; omega), List.take_of_length_le (by rw [List.length_set]; omega)] at hs
          exact hs
        rw [if_neg h1, if_neg (show ¬ n + 1 < b'.length by omega), he]
theorem badR_leT {K M : Int} {W H : Nat} {R : List Int} : Y0 K W H M R ≤ ((R.take (QE K W (Qg M) * H)).length : Int) := by
  by_cases hK : K = 4
  · unfold Y0
    rw [if_pos hK]; omega
  · rw [badR_n4 hK]
    rcases ZK ((Qg M : Nat) : Int) M (Ye (Qg M) (R.take (QE K W (Qg M) * H))) 0 with ⟨h1, _⟩ | ⟨j, hj, _, _, h3⟩
    · rw [h1]; omega
    · rw [h3]
      have hl : (Ye (Qg M) (R.take (QE K W (Qg M) * H))).length = (R.take (QE K W (Qg M) * H)).length / Qg M := by simp [Ye]
      rw [hl] at hj
      have hw := Q1 M
      have : Qg M * (j + 1) ≤ (R.take (QE K W (Qg M) * H)).length := by
        rcases hw with e | e <;> rw [e] at hj ⊢ <;> omega
      have h4 : ((Qg M * (j + 1) : Nat) : Int) ≤ ((R.take (QE K W (Qg M) * H)).length : Int) := by exact_mod_cast this
      push_cast at h4
      rw [Int.zero_add]
      omega
def rowsF (K : Int) (W : Nat) (M : Int) (bs : List Int) (n : Nat) : List Int := (List.range n).flatMap fun y => Yg K W (Qg M) ((bs.drop (y * QE K W (Qg M))).take (QE K W (Qg M)))
/-- What a raw raster's bytes tell. -/
def rawF (K : Int) (W H : Nat) (M : Int) (bs : List Int) : List Int × Int := if Y0 K W H M bs > 0 then ([], 5) else if bs.length < QE K W (Qg M) * H then ([], 6) else (rowsF K W M bs H, 0)
def rowsX (h : HS) (bs : List Int) (y : Nat) : List (Evt × Int) := (List.range y).map fun i => (⟨2, 0, 0, 0, 0, Yg h.K h.W.toNat (Qg h.M) ((bs.drop (0 + i * QE h.K h.W.toNat (Qg h.M))).take (QE h.K h.W.toNat (Qg h.M)))⟩, ((0 + (i + 1) * QE h.K h.W.toNat (Qg h.M) : Nat) : Int))
theorem rowsX_succ (h : HS) (bs : List Int) (y : Nat) : rowsX h bs (y + 1) = rowsX h bs y ++ [(⟨2, 0, 0, 0, 0, Yg h.K h.W.toNat (Qg h.M) ((bs.drop (0 + y * QE h.K h.W.toNat (Qg h.M))).take (QE h.K h.W.toNat (Qg h.M)))⟩, ((0 + (y + 1) * QE h.K h.W.toNat (Qg h.M) : Nat) : Int))] := by unfold rowsX; rw [List.range_succ, List.map_append]; rfl
theorem rowsX_flat (h : HS) (bs : List Int) (y : Nat) : (rowsX h bs y).flatMap (fun x => x.1.row) = rowsF h.K h.W.toNat h.M bs y := by
  unfold rowsX rowsF
  rw [List.flatMap_map]
  simp only [Nat.zero_add]
theorem rowsX_k (h : HS) (bs : List Int) (y : Nat) : ∀ x ∈ rowsX h bs y, x.1.k = 2 := by
  intro x hx
  obtain ⟨i, _, rfl⟩ := List.mem_map.1 hx
  rfl
theorem split3 : ∀ {a b : List (Evt × Int)} {t t' : Int} {r r' : List (Evt × Int)}, (∀ x ∈ a, x.1.k = 2) → (∀ x ∈ b, x.1.k = 2) → a ++ dnE t :: r = b ++ dnE t' :: r' → a = b
  | [], [], _, _, _, _, _, _, _ => rfl
  | x :: a, [], t, t', r, r', h1, _, e => by
    have := (List.cons.inj e).1
    have hk := h1 x (List.mem_cons_self ..)
    rw [this] at hk
    simp [dnE] at hk
  | [], y :: b, t, t', r, r', _, h2, e => by
    have := (List.cons.inj e).1
    have hk := h2 y (List.mem_cons_self ..)
    rw [← this] at hk
    simp [dnE] at hk
  | x :: a, y :: b, t, t', r, r', h1, h2, e => by
    obtain ⟨e1, e2⟩ := List.cons.inj e
    rw [e1, split3 (fun z hz => h1 z (List.mem_cons_of_mem _ hz)) (fun z hz => h2 z (List.mem_cons_of_mem _ hz)) e2]
theorem readW_body {h : HS} (hf : Vt h) (bs : List Int) : ∀ (m y : Nat), m + y = h.H.toNat → rwI 1 1 1 h bs 0 0 y (rowsX h bs y) → y * QE h.K h.W.toNat (Qg h.M) ≤ bs.length → ¬ (Y0 h.K h.W.toNat h.H.toNat h.M bs > 0 ∧ Y0 h.K h.W.toNat h.H.toNat h.M bs ≤ ((y * QE h.K h.W.toNat (Qg h.M) : Nat) : Int)) →
    YV h.K h.W.toNat h.H h.M bs (rw0 h) [] = rawF h.K h.W.toNat h.H.toNat h.M bs := by
  have hM := hf.2.2
  unfold XG at hM
  have hble := badR_leT (K := h.K) (M := h.M) (W := h.W.toNat) (H := h.H.toNat) (R := bs)
  rw [List.length_take] at hble
  have hrun := readW_run 1 1 1 h bs (rw0 h) 0 0 [] rfl
  intro m
  induction m with
  | zero =>
    intro y hm hI hy hb
    have hyH : (y : Int) = h.H := by omega
    have hI2 := hI.2 hyH
    rw [List.drop_zero] at hI2
    have hyn : y = h.H.toNat := by omega
    subst hyn
    have hmul : h.H.toNat * QE h.K h.W.toNat (Qg h.M) = QE h.K h.W.toNat (Qg h.M) * h.H.toNat := Nat.mul_comm _ _
    have hnb : ¬ Y0 h.K h.W.toNat h.H.toNat h.M bs > 0 := fun q => hb ⟨q, by rw [hmul]; omega⟩
    unfold rawF
    rw [if_neg hnb, if_neg (by rw [← hmul]; omega)]
    have hpr : XJ 1 1 1 ⟨some h, 2, .rw (rw0 h), ((0 : Nat) : Int), 0, false, 0⟩ bs = XJ 1 1 1 ⟨some h, 2, .rw (rw0 h), 0, 0, false, 0⟩ bs := rfl
    rcases hrun with ⟨g1, g2, rows, t', rest, g3, g4, g5⟩ | ⟨_, _, g2⟩ | ⟨_, _, g2⟩
    · rw [← hpr, hI2] at g4
      have e := split3 (rowsX_k h bs _) g3 (by rw [← g4]; show _ = (_ ++ [_]) ++ _; rw [List.append_assoc]; rfl)
      subst e
      refine Prod.ext ?_ g1
      rw [g5, rowsX_flat]; rfl
    · exfalso
      rw [← hpr, hI2] at g2
      have q := Vy 1 1 1 (bs.drop (0 + h.H.toNat * QE h.K h.W.toNat (Qg h.M))) ⟨some h, 0, .no, ((0 + h.H.toNat * QE h.K h.W.toNat (Qg h.M) : Nat) : Int), 0 + 1, false, 0⟩
      have z : 0 ≤ Vg ((XJ 1 1 1 ⟨some h, 0, .no, ((0 + h.H.toNat * QE h.K h.W.toNat (Qg h.M) : Nat) : Int), 0 + 1, false, 0⟩ (bs.drop (0 + h.H.toNat * QE h.K h.W.toNat (Qg h.M)))).2.map (·.1)) := by unfold Vg; omega
      simp only [Vp] at g2
      rw [g2] at q
      dsimp only at q
      omega
    · exfalso
      rw [← hpr, hI2] at g2
      have q := Vy 1 1 1 (bs.drop (0 + h.H.toNat * QE h.K h.W.toNat (Qg h.M))) ⟨some h, 0, .no, ((0 + h.H.toNat * QE h.K h.W.toNat (Qg h.M) : Nat) : Int), 0 + 1, false, 0⟩
      have z : 0 ≤ Vg ((XJ 1 1 1 ⟨some h, 0, .no, ((0 + h.H.toNat * QE h.K h.W.toNat (Qg h.M) : Nat) : Int), 0 + 1, false, 0⟩ (bs.drop (0 + h.H.toNat * QE h.K h.W.toNat (Qg h.M)))).2.map (·.1)) := by unfold Vg; omega
      simp only [Vp] at g2
      rw [g2] at q
      dsimp only at q
      omega
  | succ m ih =>
    intro y hm hI hy hb
    have hyH : (y : Int) < h.H := by omega
    have hy1 : (y + 1) * QE h.K h.W.toNat (Qg h.M) = y * QE h.K h.W.toNat (Qg h.M) + QE h.K h.W.toNat (Qg h.M) := by rw [Nat.add_mul, Nat.one_mul]
    have hbd : bs.drop 0 = bs := List.drop_zero
    by_cases hbb : Y0 h.K h.W.toNat h.H.toNat h.M bs > 0 ∧ Y0 h.K h.W.toNat h.H.toNat h.M bs ≤ (((y + 1) * QE h.K h.W.toNat (Qg h.M) : Nat) : Int)
    · have hBo := rw_bad' (fin := false) hf hI hyH (by rw [hbd]; exact hbb.1) (by rw [hbd]; exact hbb.2) (by rw [hbd]; exact fun q => hb ⟨hbb.1, q⟩)
      obtain ⟨s', e1, e2, _, e4⟩ := hBo.2 (by decide)
      simp only [psFin, if_neg (show ¬ false = true by decide)] at e1
      unfold rawF
      rw [if_pos hbb.1]
      have hpr : XJ 1 1 1 ⟨some h, 2, .rw (rw0 h), 0, 0, false, 0⟩ bs = (s', rowsX h bs y) := e1
      rw [hpr] at hrun
      rcases hrun with ⟨_, g2, _⟩ | ⟨g, _⟩ | ⟨_, g, _⟩
      · simp only at g2; omega
      · exact g
      · simp only at g; rw [g, if_neg (by decide)] at e2; omega
    · by_cases hl : (y + 1) * QE h.K h.W.toNat (Qg h.M) ≤ bs.length
      · have hR := rw_row hf hI hyH (by rw [hbd]; exact hbb) (by omega)
        rw [← rowsX_succ] at hR
        exact ih (y + 1) (by omega) hR hl hbb
      · have hBo := rw_short (fin := false) hf hI hyH (by omega) (by rw [hbd]; exact hbb) (by omega)
        obtain ⟨s', e1, e2, _, e4⟩ := hBo.2 (by decide)
        simp only [psFin, if_neg (show ¬ false = true by decide)] at e1
        have hpr : XJ 1 1 1 ⟨some h, 2, .rw (rw0 h), 0, 0, false, 0⟩ bs = (s', rowsX h bs y) := e1
        have hyl : (y + 1) * QE h.K h.W.toNat (Qg h.M) ≤ h.H.toNat * QE h.K h.W.toNat (Qg h.M) := Nat.mul_le_mul_right _ (by omega)
        have hmul : h.H.toNat * QE h.K h.W.toNat (Qg h.M) = QE h.K h.W.toNat (Qg h.M) * h.H.toNat := Nat.mul_comm _ _
        unfold rawF
        rw [if_neg (fun q => hbb ⟨q, by omega⟩), if_pos (by omega)]
        rw [hpr] at hrun
        rcases hrun with ⟨_, g2, _⟩ | ⟨_, g, _⟩ | ⟨g, _⟩
        · simp only at g2; omega
        · simp only at g
          rw [g] at e2
          simp at e2
        · exact g
/-- A raw raster read at once, whatever its row was before. -/
theorem readW_raw {h : HS} (hf : Vt h) (bs b0 : List Int) (hb : b0.length = QE h.K h.W.toNat (Qg h.M)) (hp : 0 < b0.length) : YV h.K h.W.toNat h.H h.M bs ⟨b0, 0, 0, 0, 0⟩ [] = rawF h.K h.W.toNat h.H.toNat h.M bs := by
  have hM := hf.2.2
  unfold XG at hM
  rw [← readW_body hf bs h.H.toNat 0 (by omega) (rwI0 (by omega)) (by omega) (fun q => by have := q.2; simp at this; omega)]
  exact readW_ind bs b0 _ 0 0 0 [] (by rw [hb]; simp) hp (by simp)

end Go.Proofs.YtggamdlpiejbiaaGreat
namespace Go.Proofs.YtggamdlpiejbiaaGreat
open Go.RowKit Go.Shelf

theorem hWrite_spec (K W H M : Int) (hM : XG K W H M) : Fn Tryz.prog 87 #[.agg #[.int .i64 K, .int .i64 W, .int .i64 H, .int .i64 M]] [] (fun v l => ∃ s, QJ s = hdW K W H M ∧ v = .tuple #[.string s, .int .i64 0] ∧ l = []) := by
 have hM2 := hM
 unfold XG at hM2
 have hs1 := Z1 (n := K) (by omega)
 have hs2 := Z1 (n := W) (by omega)
 have hs3 := Z1 (n := H) (by omega)
 have hs4 := Z1 (n := M) (by omega)
 refine Ql (vs := [.agg #[.int .i64 K, .int .i64 W, .int .i64 H, .int .i64 M]]) Tryz.func87 rfl Tryz.ntmps87 rfl (Qb (Qa (Q2 rfl rfl rfl ?_)))
 intro gH
 refine Qd rfl rfl (Qd rfl rfl (WpL.nil (Qb (Qb (Qa ?_)))))
 refine Qw (vs := [_, _, _, _]) rfl rfl rfl (by rfl) ?_
 refine Qi rfl rfl (by repeat' constructor) (May_spec _ _ _ _) ?_
 rintro _ _ ⟨rfl, rfl⟩
 simp only [Qs]
 refine XV rfl rfl (WpL.nil (Qj rfl (fun h0 => ?_) (fun h0 => ?_)))
 ·exfalso; exact absurd hM h0
 ·refine Wp.skip (Qb ?_)
  apply Q9 mixed [⟨8, _, []⟩, ⟨9, _, [0]⟩, ⟨10, _, [1]⟩, ⟨11, _, [2]⟩, ⟨12, _, [3]⟩, ⟨13, _, []⟩, ⟨14, _, [5]⟩, ⟨15, _, [6, 2]⟩, ⟨16, _, [4, 7]⟩, ⟨17, _, [8]⟩, ⟨18, _, []⟩, ⟨19, _, [10]⟩, ⟨20, _, [11, 7]⟩, ⟨21, _, [9, 12]⟩, ⟨22, _, [13]⟩, ⟨4, _, [14, 12, 0, 1, 2, 3, 4, 5, 6, 7, 8, 9, 10, 11, 13]⟩] rfl
  ·refine AllObs.mk ?_ ?_
   ·exact Qk (o2 := 0) rfl rfl rfl (Qm rfl)
   refine AllObs.mk ?_ ?_
   ·refine Qn rfl rfl (by rfl) ?_
    exact Qm rfl
   refine AllObs.mk ?_ ?_
   ·refine Qi rfl rfl (by repeat' constructor) (ZJ _ (by omega) (by omega)) ?_
    rintro _ _ ⟨rfl, rfl⟩
    simp only [Qs]
    exact WpL.nil ⟨rfl, rfl, rfl, by exact Ent.refl _⟩
   refine AllObs.mk ?_ ?_
   ·refine YC rfl rfl rfl (by simp only [lit1]; omega) ?_
    exact Qm rfl
   refine AllObs.mk ?_ ?_
   ·refine YC rfl rfl rfl (by simp only [ByteArray.size_append, lit1]; omega) ?_
    exact Qm rfl
   refine AllObs.mk ?_ ?_
   ·exact Qk (o2 := 1) rfl rfl rfl (Qm rfl)
   refine AllObs.mk ?_ ?_
   ·refine Qn rfl rfl (by rfl) ?_
    exact Qm rfl
   refine AllObs.mk ?_ ?_
   ·refine Qi rfl rfl (by repeat' constructor) (ZJ _ (by omega) (by omega)) ?_
    rintro _ _ ⟨rfl, rfl⟩
    simp only [Qs]
    exact WpL.nil ⟨rfl, rfl, rfl, by exact Ent.refl _⟩
   refine AllObs.mk ?_ ?_
   ·refine YC rfl rfl rfl (by simp only [ByteArray.size_append, lit1]; omega) ?_
    exact Qm rfl
   refine AllObs.mk ?_ ?_
   ·refine YC rfl rfl rfl (by simp only [ByteArray.size_append, lit1]; omega) ?_
    exact Qm rfl
   refine AllObs.mk ?_ ?_
   ·exact Qk (o2 := 2) rfl rfl rfl (Qm rfl)
   refine AllObs.mk ?_ ?_
   ·refine Qn rfl rfl (by rfl) ?_
    exact Qm rfl
   refine AllObs.mk ?_ ?_
   ·refine Qi rfl rfl (by repeat' constructor) (ZJ _ (by omega) (by omega)) ?_
    rintro _ _ ⟨rfl, rfl⟩
    simp only [Qs]
    exact WpL.nil ⟨rfl, rfl, rfl, by exact Ent.refl _⟩
   refine AllObs.mk ?_ ?_
   ·refine YC rfl rfl rfl (by simp only [ByteArray.size_append, lit1]; omega) ?_
    exact Qm rfl
   refine AllObs.mk ?_ ?_
   ·refine YC rfl rfl rfl (by simp only [ByteArray.size_append, lit1]; omega) ?_
    exact Qm rfl
   refine AllObs.mk ?_ ?_
   ·exact Qd rfl rfl (Qm rfl)
   exact AllObs.nil
  ·refine Qb (Qb (Qa ?_))
   refine Qw (vs := [_, _, _, _]) rfl rfl rfl (by rfl) ?_
   refine Qi rfl rfl (by repeat' constructor) (bits_spec _ _ _ _) ?_
   rintro _ _ ⟨rfl, rfl⟩
   simp only [Qs]
   refine XV rfl rfl (WpL.nil (Qj rfl (fun h1 => ?_) (fun h1 => ?_)))
   ·refine Qa (Qc rfl rfl (Qk (o2 := 3) rfl rfl rfl (Qn rfl rfl (by rfl) ?_)))
    refine Qi rfl rfl (by repeat' constructor) (ZJ _ (by omega) (by omega)) ?_
    rintro _ _ ⟨rfl, rfl⟩
    simp only [Qs]
    refine YC rfl rfl rfl (by simp only [lit1]; omega) ?_
    refine YC rfl rfl rfl (by simp only [ByteArray.size_append, lit1]; omega) ?_
    refine Qd rfl rfl (WpL.nil (Qb (Qa (Qc rfl rfl (Qd rfl rfl (Qd rfl rfl (WpL.nil (Qh ?_))))))))
    apply RetQ.mk
    ·exact (QM rfl rfl rfl)
    ·exact ⟨_, by simp only [Yc, ZN]; rw [hdW, if_neg (by assumption)]; simp [QJ], rfl, rfl⟩
    ·exact Ent.nil _
   ·refine Wp.skip (Qb (Qa (Qc rfl rfl (Qd rfl rfl (Qd rfl rfl (WpL.nil (Qh ?_)))))))
    apply RetQ.mk
    ·exact (QM rfl rfl rfl)
    ·exact ⟨_, by simp only [Yc, ZN]; rw [hdW, if_pos (Classical.not_not.1 (by assumption))]; simp [QJ], rfl, rfl⟩
    ·exact Ent.nil _


theorem Za (l0 l1 l2 : Int) {h : HS} {c n : Int} {bs : List Int} (h0 : (Xa l0 l1 l2 h c).last = 0) : Xj l0 l1 l2 h (c :: bs) n = Xj l0 l1 l2 (Xa l0 l1 l2 h c) bs (n + 1) := by rw [Xj, if_neg (by omega)]
theorem Vl (l0 l1 l2 : Int) {h : HS} {c n : Int} {bs : List Int} (h0 : (Xa l0 l1 l2 h c).last ≠ 0) : Xj l0 l1 l2 h (c :: bs) n = (Xa l0 l1 l2 h c, n + 1) := by rw [Xj, if_pos h0]
structure HpX where
  (k : Nat) (h : HS)

theorem hParse_spec (a b d : Int) (s : ByteArray) (hsz : s.size ≤ 1000000000000) : Fn Tryz.prog 74 #[.string s, .agg #[.int .i64 a, .int .i64 b, .int .i64 d]] [] (fun v l => v = (if (XW (QS a) (QT b) (QU d) (QJ s)).2.2 = 0 then .tuple #[.agg #[.int .i64 (XW (QS a) (QT b) (QU d) (QJ s)).1.1, .int .i64 (XW (QS a) (QT b) (QU d) (QJ s)).1.2.1, .int .i64 (XW (QS a) (QT b) (QU d) (QJ s)).1.2.2.1, .int .i64 (XW (QS a) (QT b) (QU d) (QJ s)).1.2.2.2], .int .i64 (XW (QS a) (QT b) (QU d) (QJ s)).2.1, .int .i64 0] else .tuple #[.agg #[.int .i64 0, .int .i64 0, .int .i64 0, .int .i64 0], .int .i64 0, .int .i64 (XW (QS a) (QT b) (QU d) (QJ s)).2.2]) ∧ l = []) := by
 refine Ql (vs := [.string s, .agg #[.int .i64 a, .int .i64 b, .int .i64 d]]) Tryz.func74 rfl Tryz.ntmps74 rfl (Qb (Qa (Q2 rfl rfl rfl ?_)))
 intro gB
 refine XH rfl ?_
 intro gC
 refine Qd rfl rfl (Qd rfl rfl (WpL.nil (Qb (Qa ?_))))
 refine Qw (vs := [_, _, _]) rfl rfl rfl (by rfl) ?_
 refine Qi rfl rfl (by repeat' constructor) (hdNew_rep a b d) ?_
 rintro _ _ ⟨g, rfl, rfl⟩
 simp only [Qs]
 refine Qd rfl rfl (WpL.nil (Qb (Qb (Qa (Qc rfl rfl (Xy rfl Tryz.underlying9 rfl (Qc rfl rfl (WpL.nil (Wp.block ?_)))))))))
 refine Wp.loopD (σ := HpX) (fun x => x.k ≤ s.size ∧ hdJ (QS a) (QT b) (QU d) x.h ∧ Xj (QS a) (QT b) (QU d) hd0 (QJ s) 0 = Xj (QS a) (QT b) (QU d) x.h ((QJ s).drop x.k) x.k) [5, 6, 8, 9, 10, 15, 16, 17, 18, 19, 20, 21, 22, 23, 24, 25, 26, 27, 28, 29, 30, 31, 32, 33, 34, 35, 36, 37] (fun x => [(15, .int .i64 (x.k : Int))]) (fun x => [hdR g (QS a) (QT b) (QU d) x.h, QK gC [.int .i64 0, .int .i64 0, .int .i64 0, .int .i64 0] 98, QK gB [.int .i64 a, .int .i64 b, .int .i64 d] 24]) (fun x => s.size - x.k) ⟨0, hd0⟩ ?_ (by repeat (first | exact FrLe.nil | refine FrLe.cons rfl ?_)) ?_ ?_
 ·exact ⟨Nat.zero_le _, hdJ0 _ _ _, rfl⟩
 ·exact Take.ent' (by repeat' constructor)
 ·rintro ⟨k, h⟩ ⟨hk, hj, hrn⟩
  dsimp only at hk hj hrn ⊢
  refine Qb (Qa (Q8 rfl rfl rfl (WpL.nil (Qb (Qj rfl (fun h1 => ?_) (fun h1 => ?_))))))
  ·have hlt : k < s.size := by omega
   have hkb : k < (QJ s).length := by rw [QZ]; exact hlt
   have hdc : (QJ s).drop k = (QJ s)[k] :: (QJ s).drop (k + 1) := List.drop_eq_getElem_cons hkb
   have hcb := bsOf_bd s _ (List.getElem_mem hkb)
   have hok := hdPut_ok (c := (QJ s)[k]) (lim_o a b d) hj
   refine Wp.skip (Qb (Wp.block ?_))
   refine Qb (Qa (Qc rfl rfl (Qd rfl rfl (WpL.nil (Qb (Qa (Qc rfl rfl (Qc rfl rfl (Qc rfl rfl (Yo rfl Tryz.underlying9 rfl rfl (by omega) hlt ?_))))))))))
   rw [show (((s)[((k : Int)).toNat]'hlt).toNat : Int) = (QJ s)[k] from (bsOf_at hlt).symm]
   refine Qi rfl rfl (by repeat' constructor) (hdPut_rep g (QS a) (QT b) (QU d) h _ hcb.1 hcb.2 (lim_o a b d) hj) ?_
   rintro _ _ ⟨rfl, rfl⟩
   simp only [Qs]
   refine Xq rfl rfl rfl (WpL.nil (Qj rfl (fun h2 => ?_) (fun h2 => ?_)))
   ·have hpe : (XW (QS a) (QT b) (QU d) (QJ s)) = Zj (Xa (QS a) (QT b) (QU d) h (QJ s)[k], (k : Int) + 1) (QJ s).length := by rw [Y2, hrn, hdc, Vl _ _ _ h2]
    refine Qb (Qa (Qc rfl rfl (Qi rfl rfl (by repeat' constructor) (hdHead_alt g (QS a) (QT b) (QU d) (Xa (QS a) (QT b) (QU d) h (QJ s)[k])) ?_)))
    intro v0 m0 hN0
    rcases hN0 with ⟨hE, rfl, rfl⟩ | ⟨hE, rfl, rfl⟩
    ·simp only [Qs]
     have hbad : HdBad (Xa (QS a) (QT b) (QU d) h (QJ s)[k]) := by
      rcases hok with q | q | q
      ·exact absurd q.1.1 h2
      ·exact q
      ·exact absurd q.2.1 hE
     have hpe2 : (XW (QS a) (QT b) (QU d) (QJ s)) = ((0, 0, 0, 0), (k : Int) + 1, (Xa (QS a) (QT b) (QU d) h (QJ s)[k]).e) := by rw [hpe]; unfold Zj; rw [if_neg (by rw [hbad.1]; decide), if_pos hbad.1]
     refine Qc rfl rfl (QB rfl rfl rfl (QB rfl rfl rfl (XH rfl ?_)))
     intro g3
     refine QC rfl rfl rfl (by rfl) rfl ?_
     refine Qd rfl rfl (WpL.nil (Qb (Qb (Qa ?_))))
     refine Qw (vs := [_, _, _, _]) rfl rfl rfl (by rfl) ?_
     refine Xu rfl rfl ?_
     refine s_aeq [0, 0, 0, 0] [0, 0, 0, 0] rfl rfl rfl rfl rfl (WpL.nil (QY rfl rfl (Qb (Qa ?_))))
     refine Qw (vs := [_, _, _, _]) rfl rfl rfl (by rfl) ?_
     refine Qc rfl rfl ?_
     refine QC rfl rfl rfl (by rfl) rfl ?_
     refine Qd rfl rfl (Qd rfl rfl (WpL.nil (Qh ?_)))
     apply RetQ.mk
     ·exact (QL rfl rfl (by rfl) rfl rfl)
     ·exact ⟨by rw [hpe2, if_neg hE], rfl⟩
     ·exact Ent.nil _
    ·simp only [Qs]
     have hfi : Vt (Xa (QS a) (QT b) (QU d) h (QJ s)[k]) := by
      rcases hok with q | q | q
      ·exact absurd q.1.1 h2
      ·exact absurd hE (by have := q.2.1; omega)
      ·exact q
     have hpe2 : (XW (QS a) (QT b) (QU d) (QJ s)) = (((Xa (QS a) (QT b) (QU d) h (QJ s)[k]).K, (Xa (QS a) (QT b) (QU d) h (QJ s)[k]).W, (Xa (QS a) (QT b) (QU d) h (QJ s)[k]).H, (Xa (QS a) (QT b) (QU d) h (QJ s)[k]).M), (k : Int) + 1, 0) := by rw [hpe]; unfold Zj; rw [if_pos hfi.1]
     have hK1 := hfi.2.2.1
     refine Qc rfl rfl (QB rfl rfl rfl (QB rfl rfl rfl (XH rfl ?_)))
     intro g4
     refine QC rfl rfl rfl (by rfl) rfl ?_
     refine Qd rfl rfl (WpL.nil (Qb (Qb (Qa ?_))))
     refine Qw (vs := [_, _, _, _]) rfl rfl rfl (by rfl) ?_
     refine Xu rfl rfl ?_
     refine s_aeq [(Xa (QS a) (QT b) (QU d) h (QJ s)[k]).K, (Xa (QS a) (QT b) (QU d) h (QJ s)[k]).W, (Xa (QS a) (QT b) (QU d) h (QJ s)[k]).H, (Xa (QS a) (QT b) (QU d) h (QJ s)[k]).M] [0, 0, 0, 0] rfl rfl rfl rfl rfl (WpL.nil (Qz rfl (fun q => by have := (List.cons.inj q).1; omega) ?_))
     refine Wp.skip (Qb (Qa ?_))
     refine Qw (vs := [_, _, _, _]) rfl rfl rfl (by rfl) ?_
     refine Qc rfl rfl (QA rfl rfl rfl (Qo (by omega) (by omega)) ?_)
     refine QC rfl rfl rfl (by rfl) rfl ?_
     refine Qd rfl rfl (Qd rfl rfl (WpL.nil (Qh ?_)))
     apply RetQ.mk
     ·exact (QL rfl rfl (by rfl) rfl rfl)
     ·exact ⟨by rw [hpe2, if_pos rfl], rfl⟩
     ·exact Ent.nil _
   ·have hl0 := Classical.not_not.1 h2
    refine Wp.skip (Qa (QA rfl rfl rfl (Qo (by omega) (by omega)) ?_))
    refine Qc rfl rfl (WpL.nil (Qq ⟨k + 1, Xa (QS a) (QT b) (QU d) h (QJ s)[k]⟩ ?_ ?_ (by ((repeat (first | exact Top.refl | refine Top.push rfl ?_)); done)) (by repeat (first | exact FrLe.nil | refine FrLe.cons rfl ?_)) ?_))
    ·refine ⟨by simp only; omega, ?_, ?_⟩
     ·rcases hok with q | q | q
      ·exact q
      ·exact absurd hl0 (by rw [q.1]; decide)
      ·exact absurd hl0 (by rw [q.1]; decide)
     ·rw [hrn, hdc, Za _ _ _ hl0]; rfl
    ·simp only; omega
    ·exact Ent.refl _
  ·obtain rfl : k = s.size := by omega
   rw [List.drop_of_length_le (by rw [QZ]; exact Nat.le_refl _)] at hrn
   have hpe : (XW (QS a) (QT b) (QU d) (QJ s)) = ((0, 0, 0, 0), (s.size : Int), 6) := by rw [Y2, hrn]; unfold Zj Xj; rw [hj.1.1, QZ]; simp
   refine QP (Qb (Qa ?_))
   refine Xu rfl rfl ?_
   refine QC rfl rfl rfl (by rfl) rfl ?_
   refine Qd rfl rfl (Qd rfl rfl (WpL.nil (Qh ?_)))
   apply RetQ.mk
   ·exact (QL rfl rfl (by rfl) rfl rfl)
   ·exact ⟨by rw [hpe]; rfl, rfl⟩
   ·exact Ent.nil _

end Go.Proofs.YtggamdlpiejbiaaGreat
