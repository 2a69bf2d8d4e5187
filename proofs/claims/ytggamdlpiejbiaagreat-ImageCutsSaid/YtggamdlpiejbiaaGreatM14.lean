/- Walks and plain laws, a part of the proof of ImageCuts: every input that the law's guards let in, no condition beside. -/
import Derived.Lib.AppendStr
import Derived.Lib.UnsafeStr
import Derived.Lib.Builder
import Derived.Laws.Externs
import Derived.Test.YtggamdlpiejbiaaGreatM13
namespace Go.Proofs.YtggamdlpiejbiaaGreat
open Go.RowKit Go.Shelf

theorem take_all {xs : List Int} {k : Nat} {mx : Int} (h : ∀ x ∈ xs.take k, x ≤ mx) (hlt : k < xs.length) (hx : xs[k] ≤ mx) : ∀ x ∈ xs.take (k + 1), x ≤ mx := by
  intro x hxm
  rw [Xo xs hlt] at hxm
  rcases List.mem_append.1 hxm with hxm | hxm
  · exact h x hxm
  · have := List.mem_singleton.1 hxm; subst this; exact hx

theorem rFits_spec (p ch mx : Int) (h0 : 0 ≤ p) (h1 : p < 18446744073709551616) : Fn Tryz.prog 98 #[.int .u64 p, .agg #[.int .i64 ch, .int .i64 mx]] [] (fun v l => v = .bool (decide (Yw p ch mx)) ∧ l = []) := by
 have hul := XL p
 refine Ql (vs := [.int .u64 p, .agg #[.int .i64 ch, .int .i64 mx]]) Tryz.func98 rfl Tryz.ntmps98 rfl (Qb (Qa (Q2 rfl rfl rfl ?_)))
 intro g1
 refine Qd rfl rfl (WpL.nil (Qb (Qa (Qc rfl rfl (Qi rfl rfl (by repeat' constructor) (VA _ (by omega) (by omega)) ?_)))))
 rintro _ _ ⟨A1, a1, c1, rfl, rfl, hA1, hn1⟩
 simp only [Qs]
 refine Qd rfl rfl (WpL.nil (Qb (Qb (Qa (Qd rfl rfl (WpL.nil (Wp.block ?_)))))))
 refine Wp.loopD (σ := Nat) (fun k => k ≤ (Qp p).length ∧ ∀ x ∈ (Qp p).take k, x ≤ mx) [4, 6, 10, 11, 12, 13, 14, 15, 16, 17, 18, 19, 20, 21, 22] (fun k => [(6, .int .i64 (k : Int))]) (fun k => [A1, QK g1 [.int .i64 ch, .int .i64 mx] 48]) (fun k => (Qp p).length - k) 0 ?_ (by repeat (first | exact FrLe.nil | refine FrLe.cons rfl ?_)) ?_ ?_
 ·exact ⟨Nat.zero_le _, by simp⟩
 ·exact Ent.refl _
 ·rintro k ⟨hk, hall⟩
  refine Qb (Qb (Qa (Qc rfl rfl (Qc rfl rfl (QO rfl rfl (Q8 rfl rfl rfl (WpL.nil (Qj rfl (fun h1 => ?_) (fun h1 => ?_)))))))))
  ·have hlt : k < (Qp p).length := by omega
   refine Wp.skip (Qb (Wp.block ?_))
   refine Qb ?_
   apply Q9 mixed [⟨16, _, []⟩, ⟨17, _, []⟩, ⟨18, _, [0, 1]⟩, ⟨19, _, [2]⟩, ⟨20, _, []⟩, ⟨21, _, [4]⟩, ⟨22, _, [3, 5]⟩] rfl
   ·refine AllObs.mk ?_ ?_
    ·exact Qc rfl rfl (Qm rfl)
    refine AllObs.mk ?_ ?_
    ·exact Qc rfl rfl (Qm rfl)
    refine AllObs.mk ?_ ?_
    ·refine Xg k rfl rfl rfl hA1 (by exact Take.ent' (by repeat' constructor)) rfl (by omega) (by rw [Xf]; omega) ?_
     exact Qm rfl
    refine AllObs.mk ?_ ?_
    ·refine Xk rfl rfl hA1 (by exact Take.ent' (by repeat' constructor)) (XA (Qp p) hlt) ?_
     exact Qm rfl
    refine AllObs.mk ?_ ?_
    ·exact Qk (o2 := 1) rfl rfl rfl (Qm rfl)
    refine AllObs.mk ?_ ?_
    ·refine Qn rfl rfl (by rfl) ?_
     exact Qm rfl
    refine AllObs.mk ?_ ?_
    ·exact XU rfl rfl rfl (Qm rfl)
    exact AllObs.nil
   ·refine Qj rfl (fun h2 => ?_) (fun h2 => ?_)
    ·refine Qb (Qa (Qd rfl rfl (WpL.nil (Qh ?_))))
     skip
     apply RetQ.mk
     ·exact (Res.one rfl rfl)
     ·exact ⟨congrArg Value.bool (df (fun hf => by have := hf.2.2 _ (List.getElem_mem hlt); omega)), rfl⟩
     ·exact Ent.nil _
    ·refine Wp.skip (Qa (Qc rfl rfl (QA rfl rfl rfl (Qo (by omega) (by omega)) ?_)))
     refine Qd rfl rfl (WpL.nil (Qq (k + 1) ?_ ?_ (by ((repeat (first | exact Top.refl | refine Top.push rfl ?_)); done)) (by repeat (first | exact FrLe.nil | refine FrLe.cons rfl ?_)) ?_))
     ·exact ⟨by omega, take_all hall hlt (by omega)⟩
     ·omega
     ·exact Ent.refl _
  ·refine QP (Qb (Qa ?_))
   refine Qw (vs := [_, _]) rfl rfl rfl (by rfl) ?_
   refine Qi rfl rfl (by repeat' constructor) (rFormat1_spec _ _) ?_
   rintro _ _ ⟨rfl, rfl⟩
   simp only [Qs]
   refine Qd rfl rfl (WpL.nil (Qb (Qa (Qc rfl rfl (Qc rfl rfl (QN rfl rfl rfl (fun hg1 => ?_) (fun hg1 => ?_)))))))
   ·have hg1 := of_decide_eq_true hg1
    refine Qc rfl rfl (Qf rfl rfl (QO rfl rfl (Qf rfl rfl (Qk (o2 := 0) rfl rfl rfl (Qf rfl rfl (Qn rfl rfl (by rfl) ?_))))))
    refine Qf rfl rfl (QH rfl rfl rfl (Qr rfl rfl rfl (Qd rfl rfl (WpL.nil (Qh ?_)))))
    skip
    apply RetQ.mk
    ·exact (Res.one rfl rfl)
    ·refine ⟨congrArg Value.bool ?_, rfl⟩
     have hke : k = (Qp p).length := by omega
     rw [hke, List.take_length] at hall
     exact dd ⟨fun h => ⟨by assumption, h, hall⟩, fun h => h.2.1⟩
    ·exact Ent.nil _
   ·have hg1 := of_decide_eq_false hg1
    refine Qe rfl rfl rfl (by decide) (Qe rfl rfl rfl (by decide) (Qe rfl rfl rfl (by decide) (Qe rfl rfl rfl (by decide) (Qt rfl rfl rfl (Qd rfl rfl (WpL.nil (Qh ?_)))))))
    skip
    apply RetQ.mk
    ·exact (Res.one rfl rfl)
    ·refine ⟨congrArg Value.bool ?_, rfl⟩
     have hke : k = (Qp p).length := by omega
     rw [hke, List.take_length] at hall
     exact df (fun hf => absurd hf.1 (by assumption))
    ·exact Ent.nil _


theorem chK_or (K : Int) : QR K = 1 ∨ QR K = 3 := by unfold QR; split <;> simp
def WrP (K W H M : Int) (px : List Int) : Prop := Zq K W H M ∧ (px.length : Int) = W * H ∧ ∀ p ∈ px, Yw p (QR K) M
/-- What stands behind j samples. -/
def pj (xs : List Int) (j : Nat) : List Int := if j = xs.length then X0 xs else (xs.take j).flatMap fun x => XO x.toNat ++ [32]
theorem pj_zero {xs : List Int} : pj xs 0 = [] := by
  unfold pj
  split
  · rename_i h; rw [List.eq_nil_of_length_eq_zero h.symm]; rfl
  · rfl
theorem pj_more {xs : List Int} (_h3 : xs.length = 1 ∨ xs.length = 3) {j : Nat} (hj : j + 1 < xs.length) : pj xs j ++ XO (xs[j]).toNat ++ [32] = pj xs (j + 1) := by
  unfold pj
  rw [if_neg (by omega), if_neg (by omega), Xo xs (by omega), List.flatMap_append]
  simp
theorem pj_end {xs : List Int} (h3 : xs.length = 1 ∨ xs.length = 3) {j : Nat} (hj : j + 1 = xs.length) : pj xs j ++ XO (xs[j]'(by omega)).toNat = pj xs (j + 1) := by
  match xs, h3 with
  | [x], _ =>
    have : j = 0 := by simpa using hj
    subst this
    simp [pj, X0]
  | [x, y, z], _ =>
    have : j = 2 := by simpa using hj
    subst this
    simp [pj, X0]
  | [_, _], h => simp at h
  | _ :: _ :: _ :: _ :: _, h => simp at h
theorem pj_all {xs : List Int} : pj xs xs.length = X0 xs := if_pos rfl
theorem wr_take {K W : Int} {px : List Int} {k : Nat} (h : k < px.length) : ZI K W 0 (px.take (k + 1)) = ZI K W 0 (px.take k) ++ (X0 (Qp px[k]) ++ if nlB K W k = true then [10] else []) := by
  rw [Xo px h, wrL_snoc]
  simp only [pxB, Nat.zero_add, List.length_take, show min k px.length = k by omega]
theorem nl_t {K W : Int} {k : Nat} (h : K > 1 ∨ (k : Int) % W = W - 1 ∨ (k : Int) % W % 70 = 69) {b bs : List Int} (e : bs = b) : b ++ [10] = bs ++ (if nlB K W k = true then [10] else []) := by
  rw [show nlB K W k = true from decide_eq_true h, if_pos rfl, e]
theorem nl_f {K W : Int} {k : Nat} (h1 : ¬ K > 1) (h2 : ¬ (k : Int) % W = W - 1) (h3 : ¬ (k : Int) % W % 70 = 69) {b bs : List Int} (e : bs = b) : b = bs ++ (if nlB K W k = true then [10] else []) := by
  rw [show nlB K W k = false from decide_eq_false (by omega), e]; simp
structure WrX where
  (k : Nat) (s : ByteArray)

set_option maxHeartbeats 4000000 in
theorem rWrite_spec (A0 : HP) (a0 : Option Addr) (c0 : Nat) (px : List Int) (hA : RdsL [A0] a0 (XQ px)) (hr : ∀ p ∈ px, 0 ≤ p ∧ p < 18446744073709551616) (hl : px.length ≤ 300000) (K W H M : Int) : Fn Tryz.prog 69 #[.slice a0 px.length c0, .agg #[.int .i64 K, .int .i64 W, .int .i64 H, .int .i64 M]] [A0] (fun v l => ∃ s e, v = .tuple #[.string s, .int .i64 e] ∧ ((WrP K W H M px ∧ e = 0 ∧ QJ s = ZI K W 0 px ∧ s.size ≤ px.length * 300000) ∨ (¬ WrP K W H M px ∧ e = 1 ∧ s = ⟨#[]⟩)) ∧ l = [A0]) := by
 refine Ql (vs := [.slice a0 px.length c0, .agg #[.int .i64 K, .int .i64 W, .int .i64 H, .int .i64 M]]) Tryz.func69 rfl Tryz.ntmps69 rfl (Qb (Qa (Q2 rfl rfl rfl ?_)))
 intro g1
 refine Qd rfl rfl (Qd rfl rfl (WpL.nil (Qb (Qa ?_))))
 refine Qw (vs := [_, _, _, _]) rfl rfl rfl (by rfl) ?_
 refine Qi rfl rfl (by repeat' constructor) (rMay_spec _ _ _ _) ?_
 rintro _ _ ⟨rfl, rfl⟩
 simp only [Qs]
 refine Qd rfl rfl (WpL.nil (Qb (Qb (Qa (Qc rfl rfl (XV rfl rfl (WpL.nil (Qj rfl (fun hP => ?_) (fun hP => ?_)))))))))
 ·refine Qb (Qa (Qd rfl rfl (Qd rfl rfl (WpL.nil (Qh ?_)))))
  apply RetQ.mk
  ·exact (QM rfl rfl rfl)
  ·exact ⟨_, _, rfl, .inr ⟨fun h => hP h.1, rfl, rfl⟩, rfl⟩
  ·exact Take.ent' (by repeat' constructor)
 ·have hP := Classical.not_not.1 hP
  have hP2 := hP.1
  unfold XG at hP2
  have hK4 := hP.2
  have hWH0 : 0 ≤ W * H := Int.mul_nonneg (by omega) (by omega)
  have hWH : W * H ≤ 4096 * 65536 := Int.mul_le_mul (by omega) (by omega) (by omega) (by omega)
  refine Wp.skip (Qb (Qb (Qa (Qc rfl rfl (QO rfl rfl (Qk (o2 := 1) rfl rfl rfl (Qn rfl rfl (by rfl) ?_)))))))
  refine Qk (o2 := 2) rfl rfl rfl (Qn rfl rfl (by rfl) ?_)
  refine Xv rfl rfl rfl (Qo (by omega) (by omega)) ?_
  refine Xq rfl rfl rfl (WpL.nil (Qj rfl (fun h1 => ?_) (fun h1 => ?_)))
  ·refine Qb (Qa (Qd rfl rfl (Qd rfl rfl (WpL.nil (Qh ?_)))))
   apply RetQ.mk
   ·exact (QM rfl rfl rfl)
   ·exact ⟨_, _, rfl, .inr ⟨fun h => h1 h.2.1, rfl, rfl⟩, rfl⟩
   ·exact Take.ent' (by repeat' constructor)
  ·refine Wp.skip (Qb (Qa (Qd rfl rfl (WpL.nil (Qb (Qb (Qa (Qd rfl rfl (WpL.nil (Wp.block ?_))))))))))
   refine Wp.loopD (σ := WrX) (fun x => x.k ≤ px.length ∧ QJ x.s = ZI K W 0 (px.take x.k) ∧ (∀ p ∈ px.take x.k, Yw p (QR K) M) ∧ x.s.size ≤ x.k * 300000) [4, 5, 7, 8, 9, 10, 11, 12, 25, 26, 27, 28, 29, 30, 31, 32, 33, 34, 35, 36, 37, 38, 39, 40, 41, 42, 43, 44, 45, 46, 47, 48, 49, 50, 51, 52, 53, 54, 55, 56, 57, 58, 59, 60, 61, 62, 63, 64, 65, 66, 67, 68, 69, 70, 71, 72, 73, 74, 75, 76, 77, 78, 79, 80, 81, 82, 83, 84, 85] (fun x => [(8, .int .i64 (x.k : Int)), (7, .string x.s)]) (fun x => [QK g1 [.int .i64 K, .int .i64 W, .int .i64 H, .int .i64 M] 113, A0]) (fun x => px.length - x.k) ⟨0, ⟨#[]⟩⟩ ?_ (by repeat (first | exact FrLe.nil | refine FrLe.cons rfl ?_)) ?_ ?_
   ·exact ⟨Nat.zero_le _, rfl, by simp, Nat.zero_le _⟩
   ·exact Ent.refl _
   ·rintro ⟨k, s⟩ ⟨hk, hbs, hfit, hsz⟩
    dsimp only at hk hbs hfit hsz ⊢
    refine Qb (Qb (Qa (Qc rfl rfl (Qc rfl rfl (QO rfl rfl (Q8 rfl rfl rfl (WpL.nil (Qj rfl (fun h3 => ?_) (fun h3 => ?_)))))))))
    ·have hlt : k < px.length := by omega
     have hpb := hr _ (List.getElem_mem hlt)
     refine Wp.skip (Qb (Wp.block ?_))
     refine Qb ?_
     apply Q9 mixed [⟨31, _, []⟩, ⟨32, _, []⟩, ⟨33, _, [0, 1]⟩, ⟨34, _, [2]⟩, ⟨35, _, []⟩, ⟨36, _, [4]⟩, ⟨37, _, [3, 5]⟩, ⟨9, _, [6, 0, 1, 2, 3, 4, 5]⟩] rfl
     ·refine AllObs.mk ?_ ?_
      ·exact Qc rfl rfl (Qm rfl)
      refine AllObs.mk ?_ ?_
      ·exact Qc rfl rfl (Qm rfl)
      refine AllObs.mk ?_ ?_
      ·refine Xg k rfl rfl rfl hA (by exact Take.ent' (by repeat' constructor)) rfl (by omega) (by rw [Yh]; omega) ?_
       exact Qm rfl
      refine AllObs.mk ?_ ?_
      ·refine Xk rfl rfl hA (by exact Take.ent' (by repeat' constructor)) (Y6 px hlt) ?_
       exact Qm rfl
      refine AllObs.mk ?_ ?_
      ·refine Qw (vs := [_, _, _, _]) rfl rfl rfl (by rfl) ?_
       exact Qm rfl
      refine AllObs.mk ?_ ?_
      ·refine Qi rfl rfl (by repeat' constructor) (ZF _ _ _ _ (by omega) (by omega)) ?_
       rintro _ _ ⟨rfl, rfl⟩
       simp only [Qs]
       exact WpL.nil ⟨rfl, rfl, rfl, by exact Ent.refl _⟩
      refine AllObs.mk ?_ ?_
      ·refine Qi rfl rfl (by repeat' constructor) (rFits_spec _ _ _ hpb.1 hpb.2) ?_
       rintro _ _ ⟨rfl, rfl⟩
       simp only [Qs]
       exact WpL.nil ⟨rfl, rfl, rfl, by exact Ent.refl _⟩
      refine AllObs.mk ?_ ?_
      ·exact Qd rfl rfl (Qm rfl)
      exact AllObs.nil
     ·refine Qb (Qb (Qa (Qc rfl rfl (XV rfl rfl (WpL.nil (Qj rfl (fun hpf => ?_) (fun hpf => ?_)))))))
      ·refine Qb (Qa (Qd rfl rfl (Qd rfl rfl (WpL.nil (Qh ?_)))))
       apply RetQ.mk
       ·exact (QM rfl rfl rfl)
       ·exact ⟨_, _, rfl, .inr ⟨fun h => hpf (h.2.2 _ (List.getElem_mem hlt)), rfl, rfl⟩, rfl⟩
       ·exact Take.ent' (by repeat' constructor)
      ·have hpf := Classical.not_not.1 hpf
       have hcan := can_of_fit hpb.1 hpb.2 hpf
       have hchp : (Qp px[k]).length = 1 ∨ (Qp px[k]).length = 3 := by have h1 := hcan.1; have h2 := chK_or K; omega
       refine Wp.skip (Qb (Qa (Qc rfl rfl (Qc rfl rfl (Xg k rfl rfl rfl hA (by exact Take.ent' (by repeat' constructor)) rfl (by omega) (by rw [Yh]; omega) ?_)))))
       refine Xk rfl rfl hA (by exact Take.ent' (by repeat' constructor)) (Y6 px hlt) ?_
       refine Qi rfl rfl (by repeat' constructor) (VA _ hpb.1 hpb.2) ?_
       rintro _ _ ⟨A1, a1, c1, rfl, rfl, hA1, hn1⟩
       simp only [Qs]
       refine Qd rfl rfl (WpL.nil (Qb (Qb (Qa (Qd rfl rfl (WpL.nil (Wp.block ?_)))))))
       refine Wp.loopD (σ := WrX) (fun y => y.k ≤ (Qp px[k]).length ∧ QJ y.s = ZI K W 0 (px.take k) ++ pj (Qp px[k]) y.k ∧ y.s.size ≤ k * 300000 + y.k * 70000) [7, 11, 45, 46, 47, 48, 49, 50, 51, 52, 53, 54, 55, 56, 57, 58, 59, 60, 61, 62, 63, 64] (fun y => [(11, .int .i64 (y.k : Int)), (7, .string y.s)]) (fun y => [A1, QK g1 [.int .i64 K, .int .i64 W, .int .i64 H, .int .i64 M] 113, A0]) (fun y => (Qp px[k]).length - y.k) ⟨0, s⟩ ?_ (by repeat (first | exact FrLe.nil | refine FrLe.cons rfl ?_)) ?_ ?_
       ·exact ⟨Nat.zero_le _, by simp only; rw [pj_zero, List.append_nil]; exact hbs, by rw [Nat.zero_mul, Nat.add_zero]; exact hsz⟩
       ·exact Ent.refl _
       ·rintro ⟨j, s2⟩ ⟨hj, hjb, hjz⟩
        dsimp only at hj hjb hjz ⊢
        refine Qb (Qb (Qa (Qc rfl rfl (Qc rfl rfl (QO rfl rfl (Q8 rfl rfl rfl (WpL.nil (Qj rfl (fun h6 => ?_) (fun h6 => ?_)))))))))
        ·have hlj : j < (Qp px[k]).length := by omega
         have hsm := hcan.2.2 _ (List.getElem_mem hlj)
         refine Wp.skip (Qb (Wp.block ?_))
         refine Qb (Qa (Qc rfl rfl (Qc rfl rfl (Qc rfl rfl (Xg j rfl rfl rfl hA1 (by exact Take.ent' (by repeat' constructor)) rfl (by omega) (by rw [Xf]; omega) ?_)))))
         refine Xk rfl rfl hA1 (by exact Take.ent' (by repeat' constructor)) (XA (Qp px[k]) hlj) ?_
         refine Qi rfl rfl (by repeat' constructor) (Decimal_spec _ hsm.1 (by omega)) ?_
         rintro _ _ ⟨s1, rfl, hs1, rfl⟩
         simp only [Qs]
         have hz1 : s1.size ≤ 65536 := by rw [← QZ, hs1]; have := Yz ((Qp px[k])[j]).toNat; omega
         refine YC rfl rfl rfl (by omega) ?_
         refine Qd rfl rfl (WpL.nil (Qb (Qa (Qc rfl rfl (Qc rfl rfl (QO rfl rfl (Yp rfl rfl rfl (Qo (by omega) (by omega)) ?_)))))))
         refine Q8 rfl rfl rfl (WpL.nil (Qj rfl (fun h7 => ?_) (fun h7 => ?_)))
         ·refine Qa (Qc rfl rfl (YC rfl rfl rfl (by rw [ByteArray.size_append]; have : (⟨#[32]⟩ : ByteArray).size = 1 := rfl; omega) ?_))
          refine Qd rfl rfl (WpL.nil (Qa (Qc rfl rfl (QA rfl rfl rfl (Qo (by omega) (by omega)) ?_))))
          refine Qd rfl rfl (WpL.nil (Qq (⟨j + 1, s2 ++ s1 ++ ⟨#[32]⟩⟩ : WrX) ?_ ?_ (by ((repeat (first | exact Top.refl | refine Top.push rfl ?_)); done)) (by repeat (first | exact FrLe.nil | refine FrLe.cons rfl ?_)) ?_))
          ·refine ⟨by simp only; omega, ?_, ?_⟩
           ·simp only
            rw [Yc, Yc, hjb, hs1, ← pj_more hchp (by omega), show QJ ⟨#[32]⟩ = [32] from rfl]
            simp only [List.append_assoc]
           ·simp only [ByteArray.size_append]; have : (⟨#[32]⟩ : ByteArray).size = 1 := rfl; omega
          ·simp only; omega
          ·exact Ent.refl _
         ·refine Wp.skip (Qa (Qc rfl rfl (QA rfl rfl rfl (Qo (by omega) (by omega)) ?_)))
          refine Qd rfl rfl (WpL.nil (Qq (⟨j + 1, s2 ++ s1⟩ : WrX) ?_ ?_ (by ((repeat (first | exact Top.refl | refine Top.push rfl ?_)); done)) (by repeat (first | exact FrLe.nil | refine FrLe.cons rfl ?_)) ?_))
          ·refine ⟨by simp only; omega, ?_, ?_⟩
           ·simp only
            rw [Yc, hjb, hs1, ← pj_end hchp (by omega)]
            simp only [List.append_assoc]
           ·simp only [ByteArray.size_append]; omega
          ·simp only; omega
          ·exact Ent.refl _
        ·have hje : j = (Qp px[k]).length := by omega
         have hjs : pj (Qp px[k]) j = X0 (Qp px[k]) := by rw [hje, pj_all]
         rw [hjs] at hjb
         have hm0 := Int.emod_nonneg (k : Int) (show W ≠ 0 by omega)
         have hm1 := Int.emod_lt_of_pos (k : Int) (show 0 < W by omega)
         refine QP (Qb (Qa (Qc rfl rfl (Qk (o2 := 1) rfl rfl rfl (Qn rfl rfl (by rfl) ?_)))))
         refine YD rfl rfl rfl (by omega) (by omega) ?_
         refine Qd rfl rfl (WpL.nil (Qb (Qa (Qk (o2 := 0) rfl rfl rfl (Qn rfl rfl (by rfl) ?_)))))
         refine XU rfl rfl rfl (Qc rfl rfl (QN rfl rfl rfl (fun hg1 => ?_) (fun hg1 => ?_)))
         ·have hg1 := of_decide_eq_false hg1
          refine Qc rfl rfl (Qf rfl rfl (Qk (o2 := 1) rfl rfl rfl (Qf rfl rfl (Qn rfl rfl (by rfl) ?_))))
          refine Qf rfl rfl (Yp rfl rfl rfl (Qo (by omega) (by omega)) ?_)
          refine Qf rfl rfl (QH rfl rfl rfl (Qt rfl rfl rfl (Qc rfl rfl (QN rfl rfl rfl (fun hg2 => ?_) (fun hg2 => ?_)))))
          ·have hg2 := of_decide_eq_false hg2
           refine Qc rfl rfl (Qf rfl rfl (YD rfl rfl rfl (by omega) (by omega) ?_))
           refine Qf rfl rfl (QH rfl rfl rfl (Qt rfl rfl rfl (WpL.nil (Qj rfl (fun h8 => ?_) (fun h8 => ?_)))))
           ·refine Qa (Qc rfl rfl (YC rfl rfl rfl (by have : (⟨#[10]⟩ : ByteArray).size = 1 := rfl; omega) ?_))
            refine Qd rfl rfl (WpL.nil (Qa (Qc rfl rfl (QA rfl rfl rfl (Qo (by omega) (by omega)) ?_))))
            refine Qd rfl rfl (WpL.nil (Qq (⟨k + 1, s2 ++ ⟨#[10]⟩⟩ : WrX) ?_ ?_ (by ((repeat (first | exact Top.refl | refine Top.push rfl ?_)); done)) (by repeat (first | exact FrLe.nil | refine FrLe.cons rfl ?_)) ?_))
            ·refine ⟨by simp only; omega, ?_, fun p hp => ?_, ?_⟩
             ·simp only
              rw [Yc, show QJ ⟨#[10]⟩ = [10] from rfl, wr_take hlt, ← List.append_assoc]
              exact nl_t (.inr (.inr (by omega))) hjb.symm
             ·rw [Xo px hlt] at hp
              rcases List.mem_append.1 hp with hp | hp
              ·exact hfit p hp
              ·have := List.mem_singleton.1 hp; subst this; exact hpf
             ·simp only [ByteArray.size_append]; have : (⟨#[10]⟩ : ByteArray).size = 1 := rfl; omega
            ·simp only; omega
            ·exact Take.ent' (by repeat' constructor)
           ·refine Wp.skip (Qa (Qc rfl rfl (QA rfl rfl rfl (Qo (by omega) (by omega)) ?_)))
            refine Qd rfl rfl (WpL.nil (Qq (⟨k + 1, s2⟩ : WrX) ?_ ?_ (by ((repeat (first | exact Top.refl | refine Top.push rfl ?_)); done)) (by repeat (first | exact FrLe.nil | refine FrLe.cons rfl ?_)) ?_))
            ·refine ⟨by simp only; omega, ?_, fun p hp => ?_, ?_⟩
             ·simp only
              rw [wr_take hlt, ← List.append_assoc]
              exact nl_f (by omega) (by omega) (by omega) hjb.symm
             ·rw [Xo px hlt] at hp
              rcases List.mem_append.1 hp with hp | hp
              ·exact hfit p hp
              ·have := List.mem_singleton.1 hp; subst this; exact hpf
             ·simp only; omega
            ·simp only; omega
            ·exact Take.ent' (by repeat' constructor)
          ·have hg2 := of_decide_eq_true hg2
           refine Qe rfl rfl rfl (by decide) (Qe rfl rfl rfl (by decide) (Qr rfl rfl rfl (WpL.nil (Xn rfl (Qa (Qc rfl rfl (YC rfl rfl rfl (by have : (⟨#[10]⟩ : ByteArray).size = 1 := rfl; omega) ?_)))))))
           refine Qd rfl rfl (WpL.nil (Qa (Qc rfl rfl (QA rfl rfl rfl (Qo (by omega) (by omega)) ?_))))
           refine Qd rfl rfl (WpL.nil (Qq (⟨k + 1, s2 ++ ⟨#[10]⟩⟩ : WrX) ?_ ?_ (by ((repeat (first | exact Top.refl | refine Top.push rfl ?_)); done)) (by repeat (first | exact FrLe.nil | refine FrLe.cons rfl ?_)) ?_))
           ·refine ⟨by simp only; omega, ?_, fun p hp => ?_, ?_⟩
            ·simp only
             rw [Yc, show QJ ⟨#[10]⟩ = [10] from rfl, wr_take hlt, ← List.append_assoc]
             exact nl_t (.inr (.inl (by omega))) hjb.symm
            ·rw [Xo px hlt] at hp
             rcases List.mem_append.1 hp with hp | hp
             ·exact hfit p hp
             ·have := List.mem_singleton.1 hp; subst this; exact hpf
            ·simp only [ByteArray.size_append]; have : (⟨#[10]⟩ : ByteArray).size = 1 := rfl; omega
           ·simp only; omega
           ·exact Take.ent' (by repeat' constructor)
         ·have hg1 := of_decide_eq_true hg1
          refine Qe rfl rfl rfl (by decide) (Qe rfl rfl rfl (by decide) (Qe rfl rfl rfl (by decide) (Qe rfl rfl rfl (by decide) (Qr rfl rfl rfl (Qc rfl rfl (Qe rfl rfl rfl (by decide) (Qe rfl rfl rfl (by decide) (Qe rfl rfl rfl (by decide) (Qr rfl rfl rfl (WpL.nil (Xn rfl (Qa ?_))))))))))))
          refine Qc rfl rfl (YC rfl rfl rfl (by have : (⟨#[10]⟩ : ByteArray).size = 1 := rfl; omega) ?_)
          refine Qd rfl rfl (WpL.nil (Qa (Qc rfl rfl (QA rfl rfl rfl (Qo (by omega) (by omega)) ?_))))
          refine Qd rfl rfl (WpL.nil (Qq (⟨k + 1, s2 ++ ⟨#[10]⟩⟩ : WrX) ?_ ?_ (by ((repeat (first | exact Top.refl | refine Top.push rfl ?_)); done)) (by repeat (first | exact FrLe.nil | refine FrLe.cons rfl ?_)) ?_))
          ·refine ⟨by simp only; omega, ?_, fun p hp => ?_, ?_⟩
           ·simp only
            rw [Yc, show QJ ⟨#[10]⟩ = [10] from rfl, wr_take hlt, ← List.append_assoc]
            exact nl_t (.inl (by omega)) hjb.symm
           ·rw [Xo px hlt] at hp
            rcases List.mem_append.1 hp with hp | hp
            ·exact hfit p hp
            ·have := List.mem_singleton.1 hp; subst this; exact hpf
           ·simp only [ByteArray.size_append]; have : (⟨#[10]⟩ : ByteArray).size = 1 := rfl; omega
          ·simp only; omega
          ·exact Take.ent' (by repeat' constructor)
    ·refine QP (Qb (Qa (Qc rfl rfl (Qd rfl rfl (Qd rfl rfl (WpL.nil (Qh ?_)))))))
     apply RetQ.mk
     ·exact (QM rfl rfl rfl)
     ·have hke : k = px.length := by omega
      have hz : s.size ≤ px.length * 300000 := by rw [← hke]; exact hsz
      rw [hke, List.take_length] at hfit hbs
      exact ⟨_, _, rfl, .inl ⟨⟨hP, by omega, hfit⟩, rfl, hbs, hz⟩, rfl⟩
     ·exact Take.ent' (by repeat' constructor)

end Go.Proofs.YtggamdlpiejbiaaGreat
namespace Go.Proofs.YtggamdlpiejbiaaGreat
open Go.RowKit Go.Shelf


theorem YT (p : Int) : ∀ x ∈ Qp p, 0 ≤ x ∧ x ≤ 65535 := by
  intro x hx
  unfold Qp at hx
  split at hx
  · simp at hx; omega
  · split at hx
    · simp at hx; omega
    · simp at hx
end Go.Proofs.YtggamdlpiejbiaaGreat
namespace Go.Proofs.YtggamdlpiejbiaaGreat
open Go.RowKit Go.Shelf
section
variable {P : Program} {n : Cx} {D : List Deferred} {ops : Array Oper} {rest : List Oper} {Q : Post} {fr : Fr} {l : List HP} {ty : Nat} {pos : String} {aft : Array Edge}

theorem strCells_u8s (s : ByteArray) : Lib.strCells s = Xt (QJ s) := by simp [Lib.strCells, Xt, QJ]
theorem append_str_at {w : World} {t u ty e : Nat} [ht : SlT P t e 1 1 (.int .u8 0)] (hu : P.underlying u = some .string) {v : Value} {m : Nat} {xs : List Value} (hown : w.ownsRow 0 e 1 v m xs) (s : ByteArray) (hm : m + s.size ≤ 140737488355328) :
    ∃ v' w', (Builtin.append_ #[t, u] ty #[v, .string s]).run P w = .ok v' w' ∧ w'.ownsRow 0 e 1 v' (m + s.size) (xs ++ Xt (QJ s)) ∧ w.grownBy w' v.ownBlock ∧ (v'.ownBlock = v.ownBlock ∨ v'.ownBlock = some w.heap.size) := by
  obtain ⟨i, hi, hz0, hz1, hz2⟩ := info_parts ht.hi
  obtain ⟨v', w', hr, hown', hg, hnil⟩ := Lib.run_append_own_string (P := P) w 0 t u ty e i ht.hu hu hi hz0 hz1 hz2 v m xs hown s (by unfold maxLen; omega) hm (Nat.zero_le _)
  rw [strCells_u8s] at hown'
  refine ⟨v', w', hr, hown', hg, ?_⟩
  rcases hown.2 with ⟨rfl, rfl⟩ | ⟨g, cap, cur, rfl, _, hgc, hnc, _, hcs, htake⟩
  · by_cases h0 : s.size = 0
    · have := hnil.2 ⟨rfl, h0⟩
      subst this
      exact .inl rfl
    · have hr2 := run_append_nil_string (P := P) w t u ty e i (.int .u8 0) ht.hu hu hi hz0 s (by omega) (by omega) (by rw [hz2]; omega)
      rw [hr] at hr2
      injection hr2 with e1 _
      subst e1
      exact .inr rfl
  · by_cases hroom : m + s.size ≤ cap
    · have hr2 := Lib.run_append_room_string (P := P) w t u ty e i ht.hu hu hi hz1 g m cap cur hgc s hroom (by omega)
      rw [hr] at hr2
      injection hr2 with e1 _
      subst e1
      exact .inl rfl
    · have hxl : xs.length = m := by simpa using hown.1
      have hr2 := Lib.run_append_grow_string (P := P) w t u ty e i (.int .u8 0) ht.hu hu hi hz0 ⟨g, 0, none⟩ m cap xs (by rw [hz1]; simpa using hxl) (hown.cells (g := g) rfl) s (by omega) (by omega) (by rw [hz2]; exact growslice_fits (by omega) (by omega))
      rw [hr] at hr2
      injection hr2 with e1 _
      subst e1
      exact .inr rfl
/-- append(b, s...), s a text. -/
theorem s_apps {d t u e : Nat} {x y : Operand} {a : Option Addr} {c m : Nat} {xs : List Value} {s : ByteArray} {F : List HP} (hd : Nat.blt d n = true) [ht : SlT P t e 1 1 (.int .u8 0)] (hu : P.underlying u = some .string) (hx : ev fr x = some (.slice a m c)) (hy : ev fr y = some (.string s))
    (htk : Take l [QX e 1 a c m xs] F) (hm : m + s.size ≤ 140737488355328)
    (k : ∀ a' c', WpL P n D ops rest Q ((d, .slice a' (m + s.size) c') :: fr) (QX e 1 a' c' (m + s.size) (xs ++ Xt (QJ s)) :: F)) : WpL P n D ops (⟨some d, .call ⟨.builtin .append, #[x, y], #[t, u]⟩, ty, pos, aft, none⟩ :: rest) Q fr l := by
  refine X2 (σ := Option Addr × Nat) hd (fun p => .slice p.1 (m + s.size) p.2) (fun p => QX e 1 p.1 p.2 (m + s.size) (xs ++ Xt (QJ s)) :: F) (fun A w U hh hs' => ?_) (fun p => k p.1 p.2)
  obtain ⟨V, ⟨S, ⟨hS, hown⟩, hSV, _⟩, hfr⟩ := Out.frame (pre := [QX e 1 a c m xs]) (F := F) (htk.ent w U hs')
  obtain ⟨v', w', hr, hown', hg, hat⟩ := append_str_at (P := P) (t := t) (ty := ty) hu hown s hm
  obtain ⟨a', c', rfl⟩ := slice_of_own hown'
  have hob : ∀ b, some b = (Value.slice a m c).ownBlock → V b := by
    intro b e
    refine hSV b ((hS b).2 ?_)
    cases a with
    | none => simp [Value.ownBlock] at e
    | some ad0 => simp [Value.ownBlock] at e; exact ⟨ad0, rfl, e⟩
  refine ⟨(a', c'), w', by simp [execOp, resolve, invoke, builtin, hh.ev hx, hh.ev hy, hr], hfr [QX e 1 a' c' (m + s.size) (xs ++ Xt (QJ s))] w' ⟨⟨fun b => ∃ ad, a' = some ad ∧ b = ad.block, ⟨fun _ => Iff.rfl, hown'⟩, ?_, trivial⟩, hg.os, hg.tape, hg.output, hg.size, ?_⟩⟩
  · rintro b ⟨ad', rfl, rfl⟩
    rcases hat with hat | hat
    · exact .inl (hob _ hat)
    · simp only [Value.ownBlock, Option.some.injEq] at hat
      exact .inr (Nat.le_of_eq hat.symm)
  · exact fun b hb' hnV => hg.block b hb' fun e => hnV (hob b e)

/-- A builder's types. -/
class BldF (P : Program) (T Tp Up : outParam Nat) (cc : outParam Nat) : Prop where
  tp : P.underlying Tp = some (.pointer T)
  up : P.underlying Up = some .unsafePointer
  sz : (P.info? T).map (·.size) = some 2
  lies : liesAt P P.depth T (2 / P.cellsOf T) 0 T 1 = true
theorem s_pself {d T T2 e : Nat} {x y : Operand} {p : Addr} (hd : Nat.blt d n = true) (ht : P.underlying T = some (.pointer e)) (hi : (P.info? e).isSome = true) (hx : ev fr x = some (.pointer (some p))) (hy : ev fr y = some (.pointer (some p)))
    (k : WpL P n D ops rest Q ((d, .bool false) :: fr) l) : WpL P n D ops (⟨some d, .binOp .neq T x y T2, ty, pos, aft, none⟩ :: rest) Q fr l :=
  WpL.val hd (fun a w _ hh _ => by
    obtain ⟨j, hj⟩ := Option.isSome_iff_exists.1 hi
    have := Lib.run_neq_ptr_same (P := P) w p ht hj
    simp [execOp, hh.ev hx, hh.ev hy, eqGuard, this]) k
theorem shape_of_blk {w : World} {g T : Nat} {cs : List Value} (h : w.heap[g]? = some (.cells cs.toArray T (0, 0))) : w.shape? g = some (T, cs.length) := by
  simp [World.shape?, h]
theorem s_tou {d Tp Up T g c2 T2 : Nat} {x : Operand} {v1 v2 : Value} (hd : Nat.blt d n = true) [hB : BldF P T Tp Up c2] (hx : ev fr x = some (.pointer (some ⟨g, 0, none⟩))) [hb : HasBlk l g [v1, v2] T2]
    (k : WpL P n D ops rest Q ((d, .pointer (some ⟨g, 0, none⟩)) :: fr) l) : WpL P n D ops (⟨some d, .convert Tp Up x, ty, pos, aft, none⟩ :: rest) Q fr l :=
  WpL.val hd (fun a w _ hh hs => by
    obtain ⟨j, hj, hjs⟩ := Option.map_eq_some_iff.1 hB.sz
    have := Lib.run_to_unsafe (P := P) w ⟨g, 0, none⟩ hB.tp hB.up hj (by rw [hjs]; decide) (shape_of_blk (hb.sat hs)) (by simp)
    simp [execOp, hh.ev hx, this]) k
theorem s_fromu {d Tp Up T g c2 : Nat} {x : Operand} {v1 v2 : Value} (hd : Nat.blt d n = true) [hB : BldF P T Tp Up c2] (hx : ev fr x = some (.pointer (some ⟨g, 0, none⟩))) [hb : HasBlk l g [v1, v2] T]
    (k : WpL P n D ops rest Q ((d, .pointer (some ⟨g, 0, none⟩)) :: fr) l) : WpL P n D ops (⟨some d, .convert Up Tp x, ty, pos, aft, none⟩ :: rest) Q fr l :=
  WpL.val hd (fun a w _ hh hs => by
    obtain ⟨j, hj, hjs⟩ := Option.map_eq_some_iff.1 hB.sz
    have := Lib.run_from_unsafe (P := P) w ⟨g, 0, none⟩ hB.up hB.tp hj (shape_of_blk (hb.sat hs)) hB.lies
    simp [execOp, hh.ev hx, this]) k
class NoEsc (P : Program) (f : Nat) : Prop where
  run : ∀ (x : Value) (w : World), (callFunc f #[x]).run P w = .ok (.value x) w
theorem s_noesc {d f : Nat} {x : Operand} {v : Value} {at_ : Array Nat} (hd : Nat.blt d n = true) [hN : NoEsc P f] (hx : ev fr x = some v)
    (k : WpL P n D ops rest Q ((d, v) :: fr) l) : WpL P n D ops (⟨some d, .call ⟨.value (.func f), #[x], at_⟩, ty, pos, aft, none⟩ :: rest) Q fr l :=
  WpL.val hd (fun a w _ hh hs => by
    have := hN.run v w
    have e1 : a.eval (.func f) = .func (.func f) #[] #[] := rfl
    simp [execOp, resolve, Deferred.ofValue, invoke, e1, hh.ev hx, this]) k
theorem noesc_of {f : Nat} {fn : Func} (hf : P.funcs[f]? = some fn) (hname : (fn.name == "runtime.NumGoroutine") = false) (hb : fn.body.isNone = true) (hn : Extern.findNext fn = none) (he : Extern.find fn = some Extern.AbiNoEscape.same) : NoEsc P f := ⟨fun x w => by
  rw [run_callFunc_extern hf hname hb hn he, Lib.run_noEscape]; rfl⟩
theorem s_usd {d ty' m c g : Nat} {x : Operand} {at_ : Array Nat} (hd : Nat.blt d n = true) (hx : ev fr x = some (.slice (some ⟨g, 0, none⟩) m c)) (hc : c ≠ 0)
    (k : WpL P n D ops rest Q ((d, .pointer (some ⟨g, 0, none⟩)) :: fr) l) : WpL P n D ops (⟨some d, .call ⟨.builtin .unsafeSliceData, #[x], at_⟩, ty', pos, aft, none⟩ :: rest) Q fr l :=
  WpL.val hd (fun a w _ hh hs => by
    have := Lib.run_unsafeSliceData_row (P := P) (w := w) at_ ty' ⟨g, 0, none⟩ m c hc
    simp [execOp, resolve, invoke, builtin, hh.ev hx, this]) k
/-- unsafe.String over a row of one's QX: the row is gone. -/
theorem s_uss {d pt it ty' e m c g m0 : Nat} {x y : Operand} {xs : List Int} {F : List HP} (hd : Nat.blt d n = true) (hp : P.underlying pt = some (.pointer e)) (hc1 : P.cellsOf e = 1) (hx : ev fr x = some (.pointer (some ⟨g, 0, none⟩))) (hy : ev fr y = some (.int .i64 (m : Int))) (htk : Take l [QX e 1 (some ⟨g, 0, none⟩) c m0 (Xt xs)] F)
    (hm : xs.length = m) (h0 : 0 < m) (h63 : m ≤ 140737488355328) (hb : ∀ x ∈ xs, 0 ≤ x ∧ x ≤ 255) (k : WpL P n D ops rest Q ((d, .string (strOfNums xs)) :: fr) F) :
    WpL P n D ops (⟨some d, .call ⟨.builtin .unsafeString, #[x, y], #[pt, it]⟩, ty', pos, aft, none⟩ :: rest) Q fr l := by
  refine X2 (σ := Unit) hd (fun _ => .string (strOfNums xs)) (fun _ => F) (fun A w U hh hs' => ⟨(), w.freeze ⟨g, 0, none⟩ m, ?_, ?_⟩) (fun _ => k)
  · obtain ⟨S, hpp, _⟩ := htk.ent' w U hs'
    rcases X8 hpp with ⟨e1, _⟩ | ⟨g', cur, e1, hg, hmc, hcs, h4, h5⟩
    · cases e1
    · injection e1 with e1
      injection e1 with e1 _ _
      subst e1
      obtain ⟨l8, hl8⟩ : ∃ l8 : List UInt8, l8 = xs.map fun x => x.toNat.toUInt8 := ⟨_, rfl⟩
      have hll : l8.length = m := by rw [hl8, List.length_map, hm]
      have h5' : xs.length = m0 := by rw [Xi] at h5; omega
      have hrun := Lib.run_unsafeString_row (P := P) (w := w) pt it ty' e hp hc1 g cur.size (by simp [World.shape?, hg]) l8 (fun e => by rw [e] at hll; simp at hll; omega) (by omega) (by omega) (fun j x hj => by
        have hjl : j < xs.length := by
          have := (List.getElem?_eq_some_iff.1 hj).1
          omega
        have hx2 : x = (xs[j]'hjl).toNat.toUInt8 := by
          rw [hl8, List.getElem?_map, List.getElem?_eq_getElem hjl] at hj
          simpa using hj.symm
        have hbx := hb _ (List.getElem_mem hjl)
        rw [Zs hpp rfl j _ (YW xs hjl), hx2]
        simp
        omega)
      rw [hll] at hrun
      have e2 : (⟨l8.toArray⟩ : ByteArray) = strOfNums xs := by
        rw [hl8]; simp [strOfNums]
      rw [e2] at hrun
      simp [execOp, resolve, invoke, builtin, hh.ev hx, hh.ev hy, hrun]
  · obtain ⟨V, ⟨S, ⟨hS, hown⟩, hSV, _⟩, hfr⟩ := Out.frame (pre := [QX e 1 (some ⟨g, 0, none⟩) c m0 (Xt xs)]) (F := F) (htk.ent w U hs')
    have hh2 : ∀ b, b ≠ g → (w.freeze ⟨g, 0, none⟩ m).heap[b]? = w.heap[b]? := by
      intro b hb
      unfold World.freeze
      split
      · rfl
      · simp [Array.getElem?_modify, Ne.symm hb]
    have hsz : (w.freeze ⟨g, 0, none⟩ m).heap.size = w.heap.size := by unfold World.freeze; split <;> simp
    have := hfr [] (w.freeze ⟨g, 0, none⟩ m) ⟨trivial, by unfold World.freeze; split <;> rfl, by unfold World.freeze; split <;> rfl, by unfold World.freeze; split <;> rfl, by rw [hsz]; exact Nat.le_refl _, fun b hb hn => hh2 b fun e => hn (hSV b ((hS b).2 ⟨_, rfl, e⟩))⟩
    simpa using this
end
end Go.Proofs.YtggamdlpiejbiaaGreat
namespace Go.Proofs.YtggamdlpiejbiaaGreat
open Go.RowKit Go.Shelf


theorem u8s_app (xs ys : List Int) : Xt xs ++ Xt ys = Xt (xs ++ ys) := by simp [Xt]
instance : BldF Tryz.prog 207 205 260 2 := ⟨Tryz.underlying205, Tryz.underlying260, by kernel_rfl, by kernel_rfl⟩
instance : NoEsc Tryz.prog 198 := noesc_of Tryz.func198 (by kernel_rfl) (by kernel_rfl) (by kernel_rfl) (by kernel_rfl)

theorem copyCheck_a (g : Nat) (v1 : Value) : Fn Tryz.prog 179 #[.pointer (some ⟨g, 0, none⟩)] [QK g [.pointer none, v1] 207] (fun _ l => l = [QK g [.pointer (some ⟨g, 0, none⟩), v1] 207]) := by
 refine Ql (vs := [.pointer (some ⟨g, 0, none⟩)]) Tryz.func179 rfl Tryz.ntmps179 rfl ?_
 refine Qb (Qa (Qc rfl rfl (Qy rfl rfl (Qk (o2 := 0) rfl rfl rfl (Qn rfl rfl (by rfl) ?_)))))
 refine s_peq rfl Tryz.underlying205 rfl rfl (WpL.nil (Wp.condBT rfl (by rfl) ?_))
 refine Qa (Qc rfl rfl (Qc rfl rfl (s_tou rfl rfl (s_noesc rfl rfl (s_fromu rfl rfl (Qy rfl rfl (Qk (o2 := 0) rfl rfl rfl (QV rfl rfl rfl (WpL.nil ?_)))))))))
 apply Zh
 ·exact (Yi rfl)
 ·exact rfl
 ·exact Ent.refl _

theorem copyCheck_b (g : Nat) (v1 : Value) : Fn Tryz.prog 179 #[.pointer (some ⟨g, 0, none⟩)] [QK g [.pointer (some ⟨g, 0, none⟩), v1] 207] (fun _ l => l = [QK g [.pointer (some ⟨g, 0, none⟩), v1] 207]) := by
 refine Ql (vs := [.pointer (some ⟨g, 0, none⟩)]) Tryz.func179 rfl Tryz.ntmps179 rfl ?_
 refine Qb (Qa (Qc rfl rfl (Qy rfl rfl (Qk (o2 := 0) rfl rfl rfl (Qn rfl rfl (by rfl) ?_)))))
 refine s_peq rfl Tryz.underlying205 rfl rfl (WpL.nil (Wp.condBF rfl (by rfl) ?_))
 refine Qb (Qa (Qc rfl rfl (Qy rfl rfl (Qk (o2 := 0) rfl rfl rfl (Qn rfl rfl (by rfl) ?_)))))
 refine Qc rfl rfl (s_pself rfl Tryz.underlying205 (by kernel_rfl) rfl rfl ?_)
 refine WpL.nil (QW rfl (Wp.skip ?_))
 apply Zh
 ·exact (Yi rfl)
 ·exact rfl
 ·exact Ent.refl _

theorem copyCheck_spec (g : Nat) (p : Option Addr) (v1 : Value) (hp : p = none ∨ p = some ⟨g, 0, none⟩) : Fn Tryz.prog 179 #[.pointer (some ⟨g, 0, none⟩)] [QK g [.pointer p, v1] 207] (fun _ l => l = [QK g [.pointer (some ⟨g, 0, none⟩), v1] 207]) := by
  rcases hp with rfl | rfl
  · exact copyCheck_a g v1
  · exact copyCheck_b g v1
theorem Fn.ownSome {P : Program} {f : Nat} {args : Array Value} {pre F : List HP} {R : Value → List HP → Prop} {T s c m : Nat} {a : Option Addr} {xs : List Value} (ht : Take1 pre (QX T s a c m xs) F) (hne : xs ≠ [])
    (h : ∀ g, a = some ⟨g, 0, none⟩ → m ≤ c → Fn P f args pre R) : Fn P f args pre R := by
  intro w U hs
  obtain ⟨S, hp, _⟩ := ht.ent w U hs
  rcases X8 hp with ⟨_, _, _, e⟩ | ⟨g, cur, e, _, hmc, _⟩
  · exact absurd e hne
  · exact h g e hmc w U hs

theorem ZV (g : Nat) (p a : Option Addr) (c : Nat) (xs : List Int) (hp : p = none ∨ p = some ⟨g, 0, none⟩) (s : ByteArray) (hs : xs.length + s.size ≤ 140737488355328) : Fn Tryz.prog 138 #[.pointer (some ⟨g, 0, none⟩), .string s] [QK g [.pointer p, .slice a (xs).length c] 207, QX 5 1 a c (xs).length (Xt (xs))] (fun _ l => ∃ a' c', l = [QK g [.pointer (some ⟨g, 0, none⟩), .slice a' (xs ++ QJ s).length c'] 207, QX 5 1 a' c' (xs ++ QJ s).length (Xt (xs ++ QJ s))]) := by
 refine Ql (vs := [.pointer (some ⟨g, 0, none⟩), .string s]) Tryz.func138 rfl Tryz.ntmps138 rfl ?_
 refine Qb (Qa (Qd rfl rfl (Qd rfl rfl (WpL.nil (Qb (Qa (Qc rfl rfl (Qi rfl rfl (by repeat' constructor) (copyCheck_spec _ _ _ hp) ?_))))))))
 rintro _ _ rfl
 simp only [Qs]
 refine WpL.nil (Qb (Qa (Qc rfl rfl (Qc rfl rfl (Qy rfl rfl (Qk (o2 := 1) rfl rfl rfl (Qn rfl rfl (by rfl) ?_)))))))
 refine Qc rfl rfl (s_apps rfl Tryz.underlying9 rfl rfl (by repeat' constructor) (by omega) ?_)
 intro a14 c14
 rw [u8s_app, show xs.length + s.size = (xs ++ QJ s).length from by rw [List.length_append, QZ]]
 refine Qy rfl rfl (Qk (o2 := 1) rfl rfl rfl (QV rfl rfl rfl (WpL.nil (Qb (Qa (Qc rfl rfl (Xy rfl Tryz.underlying9 rfl (Qd rfl rfl (Qd rfl rfl (WpL.nil (Qh ?_)))))))))))
 apply RetQ.mk
 ·exact (QM rfl rfl rfl)
 ·exact ⟨a14, c14, rfl⟩
 ·exact Take.ent' (by repeat' constructor)

theorem BWriteByte_spec (g : Nat) (p a : Option Addr) (c : Nat) (xs : List Int) (hp : p = none ∨ p = some ⟨g, 0, none⟩) (b : Int) (hs : xs.length + 1 ≤ 140737488355328) : Fn Tryz.prog 140 #[.pointer (some ⟨g, 0, none⟩), .int .u8 b] [QK g [.pointer p, .slice a (xs).length c] 207, QX 5 1 a c (xs).length (Xt (xs))] (fun _ l => ∃ a' c', l = [QK g [.pointer (some ⟨g, 0, none⟩), .slice a' (xs ++ [b]).length c'] 207, QX 5 1 a' c' (xs ++ [b]).length (Xt (xs ++ [b]))]) := by
 refine Ql (vs := [.pointer (some ⟨g, 0, none⟩), .int .u8 b]) Tryz.func140 rfl Tryz.ntmps140 rfl ?_
 refine Qb (Qa (Qd rfl rfl (WpL.nil (Qb (Qa (Qc rfl rfl (Qi rfl rfl (by repeat' constructor) (copyCheck_spec _ _ _ hp) ?_)))))))
 rintro _ _ rfl
 simp only [Qs]
 refine WpL.nil (Qb (Qa (Qc rfl rfl (Qc rfl rfl (Qy rfl rfl (Qk (o2 := 1) rfl rfl rfl (Qn rfl rfl (by rfl) ?_)))))))
 refine Qc rfl rfl ?_
 refine X4 rfl rfl rfl rfl ?_
 intro g1
 refine XN rfl rfl rfl (by repeat' constructor) (by rfl) (by rfl) (by rfl) (by rfl) (by omega) (by omega) ?_
 intro a14 c14
 rw [ZT, show xs.length + 1 = (xs ++ [b]).length from by simp]
 refine Qy rfl rfl (Qk (o2 := 1) rfl rfl rfl (QV rfl rfl rfl (WpL.nil (Qb (Qa (Qd rfl rfl (WpL.nil (Qh ?_))))))))
 apply RetQ.mk
 ·exact (Res.one rfl rfl)
 ·exact ⟨a14, c14, rfl⟩
 ·exact Take.ent' (by repeat' constructor)

theorem BString_a (g g' c : Nat) (p : Option Addr) (xs : List Int) (h0 : 0 < xs.length) (hc : xs.length ≤ c) (h1 : xs.length ≤ 140737488355328) (hb : ∀ x ∈ xs, 0 ≤ x ∧ x ≤ 255) : Fn Tryz.prog 141 #[.pointer (some ⟨g, 0, none⟩)] [QK g [.pointer p, .slice (some ⟨g', 0, none⟩) (xs).length c] 207, QX 5 1 (some ⟨g', 0, none⟩) c (xs).length (Xt (xs))] (fun v l => v = .string (strOfNums xs) ∧ l = []) := by
 refine Ql (vs := [.pointer (some ⟨g, 0, none⟩)]) Tryz.func141 rfl Tryz.ntmps141 rfl ?_
 refine Qb (Qa (Qd rfl rfl (WpL.nil (Qb ?_))))
 apply Xe (fB := []) mixed [(10, false)] (by kernel_rfl)
 apply Q7 [⟨0, 3, _, [], false⟩, ⟨1, 4, _, [0], false⟩, ⟨2, 5, _, [1], false⟩, ⟨3, 6, _, [2], false⟩, ⟨4, 7, _, [3], false⟩, ⟨5, 8, _, [], false⟩, ⟨6, 9, _, [5], false⟩, ⟨7, 10, _, [6], false⟩, ⟨8, 11, _, [7], false⟩, ⟨9, 12, _, [8], false⟩] [] [0, 1, 2, 3, 4, 5, 6, 7, 8, 9] [2] (.inr rfl) rfl rfl rfl (by kernel_rfl) rfl rfl rfl
 ·refine AllF.cons rfl rfl rfl rfl ?_ ?_
  ·exact Qc rfl rfl (Qm rfl)
  refine AllF.cons rfl rfl rfl rfl ?_ ?_
  ·exact Qy rfl rfl (Qm rfl)
  refine AllF.cons rfl rfl rfl rfl ?_ ?_
  ·exact Qk (o2 := 1) rfl rfl rfl (Qm rfl)
  refine AllF.cons rfl rfl rfl rfl ?_ ?_
  ·refine Qn rfl rfl (by rfl) ?_
   exact Qm rfl
  refine AllF.cons rfl rfl rfl rfl ?_ ?_
  ·refine s_usd rfl rfl (by omega) ?_
   exact WpL.nil ⟨rfl, rfl, rfl, by exact Ent.refl _⟩
  refine AllF.cons rfl rfl rfl rfl ?_ ?_
  ·exact Qc rfl rfl (Qm rfl)
  refine AllF.cons rfl rfl rfl rfl ?_ ?_
  ·exact Qy rfl rfl (Qm rfl)
  refine AllF.cons rfl rfl rfl rfl ?_ ?_
  ·exact Qk (o2 := 1) rfl rfl rfl (Qm rfl)
  refine AllF.cons rfl rfl rfl rfl ?_ ?_
  ·refine Qn rfl rfl (by rfl) ?_
   exact Qm rfl
  refine AllF.cons rfl rfl rfl rfl ?_ ?_
  ·exact QO rfl rfl (WpL.nil ⟨rfl, rfl, rfl, by exact Ent.refl _⟩)
  exact AllF.nil
 ·refine s_uss rfl Tryz.underlying245 (by kernel_rfl) rfl rfl (by repeat' constructor) rfl h0 h1 hb ?_
  refine WpL.nil ⟨rfl, rfl, ?_⟩
  apply GoR.nil [⟨11, 2, _, [0, 1, 2, 3, 4, 5, 6, 7, 8, 9, 10], false⟩] (.inr rfl) rfl rfl
  ·refine AllF.cons rfl rfl rfl rfl ?_ ?_
   ·exact Qd rfl rfl (Qm rfl)
   exact AllF.nil
  ·refine Qh ?_
   apply RetQ.mk
   ·exact (Res.one rfl rfl)
   ·exact ⟨rfl, rfl⟩
   ·exact Ent.nil _

theorem BString_spec (g c : Nat) (p a : Option Addr) (xs : List Int) (h0 : 0 < xs.length) (h1 : xs.length ≤ 140737488355328) (hb : ∀ x ∈ xs, 0 ≤ x ∧ x ≤ 255) : Fn Tryz.prog 141 #[.pointer (some ⟨g, 0, none⟩)] [QK g [.pointer p, .slice a xs.length c] 207, QX 5 1 a c xs.length (Xt xs)] (fun v l => v = .string (strOfNums xs) ∧ l = []) := by
  refine Fn.ownSome (Take1.there Take1.here) (fun e => by rw [← List.length_eq_zero_iff, Xi] at e; omega) fun g' e hmc => ?_
  subst e
  exact BString_a g g' c p xs h0 hmc h1 hb

end Go.Proofs.YtggamdlpiejbiaaGreat
namespace Go.Proofs.YtggamdlpiejbiaaGreat
open Go.RowKit Go.Shelf


def strs (xs : List ByteArray) : List Value := xs.map Value.string
theorem strs_len (xs : List ByteArray) : (strs xs).length = xs.length := List.length_map _
theorem strs_at (xs : List ByteArray) {k : Nat} (h : k < xs.length) : (strs xs)[k]? = some (.string (xs[k]'h)) := by simp [strs, List.getElem?_map, List.getElem?_eq_getElem h]
theorem strs_snoc (xs : List ByteArray) (x : ByteArray) : strs xs ++ [.string x] = strs (xs ++ [x]) := by simp [strs]
theorem inter_map {α β : Type} (f : α → β) (sep : List α) (xs : List (List α)) : (sep.intercalate xs).map f = (sep.map f).intercalate (xs.map (·.map f)) := by
  simp only [List.intercalate]
  induction xs with
  | nil => rfl
  | cons x xs ih =>
    cases xs with
    | nil => simp
    | cons y ys => simp only [List.map_cons, List.intersperse_cons_cons, List.flatten_cons, List.map_append] at ih ⊢; rw [ih]
theorem Join_spec (a : Option Addr) (c : Nat) (xs : List ByteArray) (sep : ByteArray) (h0 : 0 < xs.length) (h1 : xs.length ≤ 140737488355328) (h2 : ((QJ sep).intercalate (xs.map QJ)).length ≤ 140737488355328) :
    Fn Tryz.prog 142 #[.slice a xs.length c, .string sep] [QX 9 1 a c xs.length (strs xs)] (fun v l => ∃ s, v = .string s ∧ QJ s = (QJ sep).intercalate (xs.map QJ) ∧ l = [QX 9 1 a c xs.length (strs xs)]) := by
  have e1 : (Lib.join (xs.map (·.data.toList)) sep.data.toList).map (fun b => (b.toNat : Int)) = (QJ sep).intercalate (xs.map QJ) := by
    unfold Lib.join QJ
    rw [inter_map, List.map_map]
    rfl
  refine Fn.ownSome Take1.here (fun e => by rw [← List.length_eq_zero_iff, strs_len] at e; omega) fun g e hmc => ?_
  subst e
  intro w U hs
  have hs2 := hs
  obtain ⟨S, hp, _⟩ := hs2
  have hlt : g < w.heap.size := by
    rcases X8 hp with ⟨e, _⟩ | ⟨g', cur, e, hg, _⟩
    · cases e
    · injection e with e; injection e with e _ _; subst e; exact (Array.getElem?_eq_some_iff.1 hg).1
  have hj := Tryz.strings_Join g 0 c xs sep w (fun j x hx => by
    have hjl := (List.getElem?_eq_some_iff.1 hx).1
    have hxe := (List.getElem?_eq_some_iff.1 hx).2
    have := Zs hp rfl j _ (strs_at xs hjl)
    rw [hxe] at this
    simpa [Vf] using this) hlt h1 hmc (by rw [← e1, List.length_map] at h2; exact h2)
  refine hj.mono ?_
  rintro e w' ⟨rfl, hb⟩
  exact ⟨_, _, rfl, ⟨_, rfl, by rw [← e1]; simp [QJ], rfl⟩, Out.chg hs hb⟩
theorem joinB_inter : ∀ (xs : List Int), X0 xs = [32].intercalate (xs.map fun x => XO x.toNat)
  | [] => rfl
  | [x] => by simp [X0, List.intercalate]
  | x :: y :: xs => by
    rw [X0, joinB_inter (y :: xs)]
    simp [List.intercalate]
theorem digs_len5 {x : Int} (h : x ≤ 65535) : 1 ≤ (XO x.toNat).length ∧ (XO x.toNat).length ≤ 5 := by
  rw [lowD_digs, List.length_reverse, List.length_map]
  obtain ⟨t, ht⟩ := lowD_head 10 x.toNat
  have := lowD_len20 (b := 10) (n := x.toNat) (by omega) 4 (by omega)
  rw [ht] at this ⊢
  simp only [List.length_cons] at this ⊢
  omega
theorem joinB_len : ∀ (xs : List Int), (∀ x ∈ xs, x ≤ 65535) → (X0 xs).length ≤ 6 * xs.length ∧ (xs ≠ [] → 1 ≤ (X0 xs).length)
  | [], _ => by simp [X0]
  | [x], h => by
    have := digs_len5 (h x (by simp))
    simp only [X0, List.length_cons, List.length_nil]; omega
  | x :: y :: xs, h => by
    have h1 := digs_len5 (h x (by simp))
    have h2 := joinB_len (y :: xs) fun z hz => h z (by simp [hz])
    simp only [X0, List.length_append, List.length_cons] at h2 ⊢; omega
theorem joinB_byte : ∀ (xs : List Int), ∀ b ∈ X0 xs, 0 ≤ b ∧ b ≤ 255
  | [], b, hb => by simp [X0] at hb
  | [x], b, hb => by have := digs_bd _ b hb; omega
  | x :: y :: xs, b, hb => by
    rw [X0] at hb
    rcases List.mem_append.1 hb with hb | hb
    · have := digs_bd _ b hb; omega
    · rcases List.mem_cons.1 hb with hb | hb
      · omega
      · exact joinB_byte (y :: xs) b hb
theorem VI {K W : Int} : ∀ (l : List Int) (i : Nat), (ZI K W i l).length ≤ 20 * l.length
  | [], i => by simp [ZI]
  | p :: l, i => by
    have h1 := VI (K := K) (W := W) l (i + 1)
    have h2 := (joinB_len (Qp p) fun x hx => (YT p x hx).2).1
    have h3 := XL p
    simp only [ZI, pxB, List.length_append, List.length_cons]
    split <;> simp <;> omega
theorem wrL_byte {K W : Int} : ∀ (l : List Int) (i : Nat), ∀ b ∈ ZI K W i l, 0 ≤ b ∧ b ≤ 255
  | [], i, b, hb => by simp [ZI] at hb
  | p :: l, i, b, hb => by
    rw [ZI, pxB] at hb
    rcases List.mem_append.1 hb with hb | hb
    · rcases List.mem_append.1 hb with hb | hb
      · exact joinB_byte _ b hb
      · split at hb
        · simp at hb; omega
        · simp at hb
    · exact wrL_byte l (i + 1) b hb
theorem wrL_pos {K W : Int} {l : List Int} (h : l ≠ []) (hu : ∀ p ∈ l, Qp p ≠ []) (i : Nat) : 0 < (ZI K W i l).length := by
  cases l with
  | nil => exact absurd rfl h
  | cons p l =>
    have := (joinB_len (Qp p) fun x hx => (YT p x hx).2).2 (hu p (by simp))
    simp only [ZI, pxB, List.length_append]; omega
theorem ZN (n : Nat) : QJ (strOfNums (XO n)) = XO n := Yj fun x hx => by have := digs_bd n x hx; omega
structure WbX where
  (k : Nat) (bs : List Int) (p a : Option Addr) (c : Nat)
theorem mod_row {q r W : Int} (h0 : 0 ≤ r) (h1 : r < W) : (q * W + r) % W = r := by
  rw [Int.add_comm, Int.add_mul_emod_self_right]
  exact Int.emod_eq_of_lt h0 h1

theorem Odd_spec (g : Nat) (p ch mx : Int) (h0 : 0 ≤ p) (h1 : p < 18446744073709551616) : Fn Tryz.prog 137 #[.int .u64 p, .pointer (some ⟨g, 0, none⟩)] [QK g [.int .i64 ch, .int .i64 mx] 48] (fun v l => v = .bool (!decide (Yw p ch mx)) ∧ l = [QK g [.int .i64 ch, .int .i64 mx] 48]) := by
 refine Ql (vs := [.int .u64 p, .pointer (some ⟨g, 0, none⟩)]) Tryz.func137 rfl Tryz.ntmps137 rfl ?_
 refine Qb (Qa (Qd rfl rfl (WpL.nil (Qb (Qa (Qc rfl rfl ?_))))))
 refine Qw (vs := [_, _]) rfl rfl rfl (by rfl) ?_
 refine Qi rfl rfl (by repeat' constructor) (Fits_spec _ _ _ h0 h1) ?_
 rintro _ _ ⟨rfl, rfl⟩
 simp only [Qs]
 refine Zp rfl rfl (Qd rfl rfl (WpL.nil (Qh ?_)))
 apply RetQ.mk
 ·exact (Res.one rfl rfl)
 ·exact ⟨rfl, rfl⟩
 ·exact Ent.refl _

theorem IndexOdd_spec (A0 : HP) (a0 : Option Addr) (c0 : Nat) (px : List Int) (hA : RdsL [A0] a0 (XQ px)) (hr : ∀ p ∈ px, 0 ≤ p ∧ p < 18446744073709551616) (hl : px.length ≤ 140737488355328) (g : Nat) (ch mx : Int) : Fn Tryz.prog 173 #[.slice a0 px.length c0, .func (.func 137) #[] #[.pointer (some ⟨g, 0, none⟩)]] [QK g [.int .i64 ch, .int .i64 mx] 48, A0] (fun v l => ∃ r : Int, v = .int .i64 r ∧ (0 ≤ r ↔ ¬ ∀ p ∈ px, Yw p ch mx) ∧ l = [QK g [.int .i64 ch, .int .i64 mx] 48, A0]) := by
 refine Ql (vs := [.slice a0 px.length c0, .func (.func 137) #[] #[.pointer (some ⟨g, 0, none⟩)]]) Tryz.func173 rfl Tryz.ntmps173 rfl ?_
 refine Qb (Qa (Qd rfl rfl (WpL.nil (Qb (Qb (Qa (Qc rfl rfl (QO rfl rfl (Qc rfl rfl (WpL.nil (Wp.block ?_)))))))))))
 refine Wp.loopD (σ := Nat) (fun k => k ≤ px.length ∧ ∀ p ∈ px.take k, Yw p ch mx) [4, 5, 8, 9, 10, 11, 12, 13, 14, 15, 16, 17, 18] (fun k => [(8, .int .i64 (k : Int))]) (fun k => [QK g [.int .i64 ch, .int .i64 mx] 48, A0]) (fun k => px.length - k) 0 ?_ (by repeat (first | exact FrLe.nil | refine FrLe.cons rfl ?_)) ?_ ?_
 ·exact ⟨Nat.zero_le _, by simp⟩
 ·exact Ent.refl _
 ·rintro k ⟨hk, hf⟩
  refine Qb (Qa (Q8 rfl rfl rfl (WpL.nil (Qb (Qj rfl (fun h1 => ?_) (fun h1 => ?_))))))
  ·have hlt : k < px.length := by omega
   have hpb := hr _ (List.getElem_mem hlt)
   refine Wp.skip (Qb (Wp.block ?_))
   refine Qb (Qa (Qc rfl rfl (Qd rfl rfl (WpL.nil (Qb (Qa (Qc rfl rfl (Qc rfl rfl (Qc rfl rfl (Xg k rfl rfl rfl hA (by exact Take.ent' (by repeat' constructor)) rfl (by omega) (by rw [Yh]; omega) ?_))))))))))
   refine Xk rfl rfl hA (by exact Take.ent' (by repeat' constructor)) (Y6 px hlt) ?_
   refine Yv (u := []) (c := [.pointer (some ⟨g, 0, none⟩)]) rfl rfl rfl rfl (by repeat' constructor) (Odd_spec g _ ch mx hpb.1 hpb.2) ?_
   rintro _ _ ⟨rfl, rfl⟩
   simp only [Qs]
   refine WpL.nil (XZ rfl (fun h2 => ?_) (fun h2 => ?_))
   ·refine Qb (Qa (Qc rfl rfl (Qd rfl rfl (WpL.nil (Qh ?_)))))
    apply RetQ.mk
    ·exact (Res.one rfl rfl)
    ·exact ⟨_, rfl, ⟨fun _ hall => (by have := hall _ (List.getElem_mem hlt); rw [decide_eq_true this] at h2; cases h2), fun _ => (by omega)⟩, rfl⟩
    ·exact Ent.refl _
   ·refine Wp.skip (Qa (QA rfl rfl rfl (Qo (by omega) (by omega)) ?_))
    refine Qc rfl rfl (WpL.nil (Qq (k + 1) ?_ ?_ (by ((repeat (first | exact Top.refl | refine Top.push rfl ?_)); done)) (by repeat (first | exact FrLe.nil | refine FrLe.cons rfl ?_)) ?_))
    ·refine ⟨by omega, fun p hp => ?_⟩
     rw [Xo px hlt] at hp
     rcases List.mem_append.1 hp with hp | hp
     ·exact hf p hp
     ·have := List.mem_singleton.1 hp; subst this; simpa using h2
    ·omega
    ·exact Ent.refl _
  ·refine QP (Qb (Qa (Qd rfl rfl (WpL.nil (Qh ?_)))))
   apply RetQ.mk
   ·exact (Res.one rfl rfl)
   ·have hke : k = px.length := by omega
    rw [hke, List.take_length] at hf
    exact ⟨_, rfl, ⟨fun h => by omega, fun h => absurd hf h⟩, rfl⟩
   ·exact Ent.refl _

theorem ContainsOdd_spec (A0 : HP) (a0 : Option Addr) (c0 : Nat) (px : List Int) (hA : RdsL [A0] a0 (XQ px)) (hr : ∀ p ∈ px, 0 ≤ p ∧ p < 18446744073709551616) (hl : px.length ≤ 140737488355328) (g : Nat) (ch mx : Int) : Fn Tryz.prog 130 #[.slice a0 px.length c0, .func (.func 137) #[] #[.pointer (some ⟨g, 0, none⟩)]] [QK g [.int .i64 ch, .int .i64 mx] 48, A0] (fun v l => v = .bool (decide (¬ ∀ p ∈ px, Yw p ch mx)) ∧ l = [QK g [.int .i64 ch, .int .i64 mx] 48, A0]) := by
 refine Ql (vs := [.slice a0 px.length c0, .func (.func 137) #[] #[.pointer (some ⟨g, 0, none⟩)]]) Tryz.func130 rfl Tryz.ntmps130 rfl ?_
 refine Qb (Qa (Qd rfl rfl (WpL.nil (Qb (Qa (Qc rfl rfl (Qc rfl rfl (Qi rfl rfl (by repeat' constructor) (IndexOdd_spec A0 a0 c0 px hA hr hl _ _ _) ?_))))))))
 rintro _ _ ⟨ri, rfl, hri, rfl⟩
 simp only [Qs]
 refine s_ge rfl rfl rfl (Qd rfl rfl (WpL.nil (Qh ?_)))
 apply RetQ.mk
 ·exact (Res.one rfl rfl)
 ·exact ⟨congrArg Value.bool (by rw [decide_eq_decide]; exact hri), rfl⟩
 ·exact Ent.refl _

end Go.Proofs.YtggamdlpiejbiaaGreat
