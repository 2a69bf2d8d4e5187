/- Walks and plain laws, a part of the proof of PnmAll: every input that the law's guards let in, no condition beside. -/
import Derived.Test.YtggamdlpiejbiaaGreatM13
namespace Go.Proofs.YtggamdlpiejbiaaGreat
open Go.RowKit Go.Shelf

theorem ZY (k ch : Nat) : (k + 1) * ch = k * ch + ch := by rw [Nat.add_mul, Nat.one_mul]

set_option maxHeartbeats 1000000 in
theorem chunkF_spec (a : Option Addr) (c N ch W : Nat) (hch : 1 ≤ ch) (hN : N = W * ch) (hNc : N ≤ c) (hNb : N ≤ 1000000000) (gs gn y : Nat) (J Jx : Nat → List HP → Prop) (hY : ∀ k (_ : k < W) m, J k m → Yld Tryz.prog y ([.slice (sla a (k * ch) ((k + 1) * ch) 1) ch ch] : List Value).toArray m (rdR J Jx k)) (m0 : List HP) (h0 : J 0 m0) : Fn Tryz.prog 204 #[.func (.yield y) #[] #[], .pointer (some ⟨gs, 0, none⟩), .pointer (some ⟨gn, 0, none⟩)] (Qz gs [.slice a N c] 26 :: Qz gn [.int .i64 (ch : Int)] 3 :: m0) (fun _ l => ∃ m', (J W m' ∨ ∃ k, k < W ∧ Jx k m') ∧ l = Qz gs [.slice a N c] 26 :: Qz gn [.int .i64 (ch : Int)] 3 :: m') := by
 refine Qo (vs := [.func (.yield y) #[] #[], .pointer (some ⟨gs, 0, none⟩), .pointer (some ⟨gn, 0, none⟩)]) Tryz.func204 rfl Tryz.ntmps204 rfl ?_
 refine Qb (Qa (Qd rfl rfl (WpL.nil (Wp.block ?_))))
 refine Wp.loopD (σ := NmX) (fun x => x.k ≤ W ∧ J x.k x.m) [4, 5, 6, 7, 8, 9, 10, 11, 12, 13, 14, 15, 16, 17, 18, 19, 20, 21, 22, 23, 24, 25, 26, 27, 28, 29, 30] (fun x => [(4, .int .i64 ((x.k * ch : Nat) : Int))]) (fun x => Qz gs [.slice a N c] 26 :: Qz gn [.int .i64 (ch : Int)] 3 :: x.m) (fun x => W - x.k) ⟨0, m0⟩ ?_ (FrLe.cons (by rw [Nat.zero_mul]; rfl) FrLe.nil) ?_ ?_
 ·exact ⟨Nat.zero_le _, h0⟩
 ·exact Ent.refl _
 ·rintro ⟨k, m1⟩ ⟨hk, hJ⟩
  dsimp only at hk hJ ⊢
  have hkN : k * ch ≤ N := by rw [hN]; exact Nat.mul_le_mul_right _ hk
  refine Qb (Qb (Qa (Qc rfl rfl (Qn rfl rfl (by rfl) ?_))))
  refine QM rfl rfl (Q9 rfl rfl rfl (WpL.nil (Qh rfl (fun h1 => ?_) (fun h1 => ?_))))
  ·have hlt : k < W := by
    rcases Nat.lt_or_ge k W with h | h
    ·exact h
    ·have := Nat.mul_le_mul_right ch h; omega
   have hkN1 : (k + 1) * ch ≤ N := by rw [hN]; exact Nat.mul_le_mul_right _ hlt
   have hks := ZY k ch
   have hY1 := hY k hlt m1 hJ
   refine Wp.skip (Qb (Wp.block ?_))
   refine Qb ?_
   apply Q2 mixed [⟨13, _, []⟩, ⟨14, _, []⟩, ⟨15, _, []⟩, ⟨16, _, [1, 2]⟩, ⟨17, _, [3]⟩, ⟨18, _, [0, 4]⟩, ⟨5, _, [5, 0, 1, 2, 3, 4]⟩] rfl
   ·refine AllObs.mk ?_ ?_
    ·refine Qn rfl rfl (by rfl) ?_
     exact Qm rfl
    refine AllObs.mk ?_ ?_
    ·refine Qn rfl rfl (by rfl) ?_
     exact Qm rfl
    refine AllObs.mk ?_ ?_
    ·exact Qc rfl rfl (Qm rfl)
    refine AllObs.mk ?_ ?_
    ·exact s_sll_l (L := k * ch) rfl rfl rfl rfl hkN (Qm rfl)
    refine AllObs.mk ?_ ?_
    ·exact QM rfl rfl (WpL.nil ⟨rfl, rfl, rfl, by exact Ent.refl _⟩)
    refine AllObs.mk ?_ ?_
    ·refine Vf rfl rfl rfl ?_
     rw [show min (ch : Int) ((N - k * ch : Nat) : Int) = (ch : Int) by omega]
     exact WpL.nil ⟨rfl, rfl, rfl, by exact Ent.refl _⟩
    refine AllObs.mk ?_ ?_
    ·exact Qd rfl rfl (Qm rfl)
    exact AllObs.nil
   ·refine Qb (Qa (Qc rfl rfl (Qn rfl rfl (by rfl) ?_)))
    refine Qc rfl rfl (Qc rfl rfl (Qc rfl rfl (Qw rfl rfl rfl (Qp (by omega) (by omega)) ?_)))
    rw [show ((k * ch : Nat) : Int) + (ch : Int) = (((k + 1) * ch : Nat) : Int) by omega]
    refine Qc rfl rfl (Qc rfl rfl (Qw rfl rfl rfl (Qp (by omega) (by omega)) ?_))
    rw [show ((k * ch : Nat) : Int) + (ch : Int) = (((k + 1) * ch : Nat) : Int) by omega]
    refine s_sll_lhm (L := k * ch) (H := (k + 1) * ch) (M := (k + 1) * ch) rfl rfl rfl rfl rfl rfl rfl rfl (by omega) (by omega) (by omega) ?_
    rw [show (k + 1) * ch - k * ch = ch by omega]
    refine s_yield rfl rfl rfl rfl (by repeat (first | exact Take.all | apply Take.skip)) (hY1) ?_
    rintro v m' (⟨rfl, hm'⟩ | ⟨rfl, hm'⟩)
    ·simp only [Qv]
     refine Zz rfl rfl (WpL.nil (QR rfl (Wp.skip (Qa (Qc rfl rfl (Qn rfl rfl (by rfl) ?_))))))
     refine Qw rfl rfl rfl (Qp (by omega) (by omega)) ?_
     refine Qd rfl rfl (WpL.nil (Qq (⟨k + 1, m'⟩ : NmX) ?_ ?_ (by ((repeat (first | exact Top.refl | refine Top.push rfl ?_)); done)) (FrLe.cons (by exact congrArg (fun x => some (Value.int .i64 x)) (by rw [ZY]; push_cast; rfl)) FrLe.nil) ?_))
     ·exact ⟨by simp only; omega, hm'⟩
     ·simp only; omega
     ·exact Ent.refl _
    ·simp only [Qv]
     refine Zz rfl rfl (WpL.nil (Xg rfl (Qg ?_)))
     apply RetQ.mk
     ·exact (Y9 rfl)
     ·exact ⟨m', .inr ⟨_, hlt, hm'⟩, rfl⟩
     ·exact Ent.refl _
  ·refine QS ?_
   apply Z5
   ·exact (Y9 rfl)
   ·have hke : k = W := by
     rcases Nat.lt_or_ge k W with h | h
     ·exfalso; have h9 := Nat.mul_le_mul_right ch (show k + 1 ≤ W from h); rw [ZY] at h9; omega
     ·omega
    rw [hke] at hJ
    exact ⟨m1, .inl hJ, rfl⟩
   ·exact Ent.refl _


theorem chunk_iter (a : Option Addr) (c N ch W : Nat) (hch : 1 ≤ ch) (hN : N = W * ch) (hNc : N ≤ c) (hNb : N ≤ 1000000000) (gs gn : Nat) :
    Iter Tryz.prog 204 [.pointer (some ⟨gs, 0, none⟩), .pointer (some ⟨gn, 0, none⟩)] (fun k : Nat => [.slice (sla a (k * ch) ((k + 1) * ch) 1) ch ch]) (List.range W) [Qz gs [.slice a N c] 26, Qz gn [.int .i64 (ch : Int)] 3] [Qz gs [.slice a N c] 26, Qz gn [.int .i64 (ch : Int)] 3] := by
  intro y J Jx hY m h0
  have hl : (List.range W).length = W := List.length_range
  rw [hl]
  have h := chunkF_spec a c N ch W hch hN hNc hNb gs gn y J Jx (fun k hk m hJ => by have := hY k (by rw [hl]; exact hk) m hJ; simpa using this) m h0
  exact h.mono fun v l hv => ⟨l, by obtain ⟨m', hm, rfl⟩ := hv; exact ⟨m', hm, rfl⟩, Ent.refl _⟩

theorem chunk_spec (a : Option Addr) (c N ch : Nat) (hch : 1 ≤ ch) : Fn Tryz.prog 195 #[.slice a N c, .int .i64 (ch : Int)] [] (fun v l => ∃ gs gn, v = .func (.func 204) #[] #[.pointer (some ⟨gs, 0, none⟩), .pointer (some ⟨gn, 0, none⟩)] ∧ l = [Qz gs [.slice a N c] 26, Qz gn [.int .i64 (ch : Int)] 3]) := by
 refine Qo (vs := [.slice a N c, .int .i64 (ch : Int)]) Tryz.func195 rfl Tryz.ntmps195 rfl (Qb (Qa (Xb rfl rfl rfl ?_)))
 intro g1
 refine Xb rfl rfl rfl ?_
 intro g2
 refine Qd rfl rfl (WpL.nil (Qb (Qb (Qa (Qn rfl rfl (by rfl) ?_)))))
 refine Q9 rfl rfl rfl (WpL.nil (Qy rfl (by omega) ?_))
 refine Wp.skip (Qb (Qa (s_mkf rfl (fun a hh => ZE hh _ _ rfl) ?_)))
 refine Qd rfl rfl (WpL.nil (Qg ?_))
 apply RetQ.mk
 ·exact (Res.one rfl rfl)
 ·exact ⟨_, _, rfl, rfl⟩
 ·exact Take.ent' (by repeat' constructor)

end Go.Proofs.YtggamdlpiejbiaaGreat
namespace Go.Proofs.YtggamdlpiejbiaaGreat
open Go.RowKit Go.Shelf


def RawH (K W H M : Int) : Prop := XZ K W H M ∧ 4 ≤ K
theorem RawH.bd {K W H M : Int} (h : RawH K W H M) : (4 ≤ K ∧ K ≤ 6) ∧ (1 ≤ W ∧ W ≤ 4096) ∧ (1 ≤ H ∧ H ≤ 65536) ∧ (1 ≤ M ∧ M ≤ 65535) ∧ (K = 4 → M = 1) := by
  obtain ⟨h1, h2⟩ := h
  unfold XZ at h1
  omega
theorem YX (K : Int) : QY K = 1 ∨ QY K = 3 := by unfold QY; split <;> simp
theorem X8 {K : Int} {W w : Nat} (hw : w = 1 ∨ w = 2) (h1 : 1 ≤ W) (h2 : W ≤ 4096) : 1 ≤ QJ K W w ∧ QJ K W w ≤ 24576 := by
  have hch := YX K
  unfold QJ
  split
  · omega
  · rcases hch with e | e <;> rw [e] <;> rcases hw with rfl | rfl <;> simp <;> omega
theorem strd_int {K : Int} {W w : Nat} (h : K ≠ 4) : ((QJ K W w : Nat) : Int) = (W : Int) * QY K * (w : Int) := by
  have hch := YX K
  unfold QJ
  rw [if_neg h]
  push_cast
  rw [Int.toNat_of_nonneg (by omega)]

theorem Zv (K W H M : Int) : Fn Tryz.prog 145 #[.agg #[.int .i64 K, .int .i64 W, .int .i64 H, .int .i64 M]] [] (fun v l => v = .int .i64 ((Qk M : Nat) : Int) ∧ l = []) := by
 refine Qo (vs := [.agg #[.int .i64 K, .int .i64 W, .int .i64 H, .int .i64 M]]) Tryz.func145 rfl Tryz.ntmps145 rfl (Qb (Qa (Xb rfl rfl rfl ?_)))
 intro g1
 refine Qd rfl rfl (WpL.nil (Qb (Qb (Qa (Qi (o2 := 3) rfl rfl rfl (Qn rfl rfl (by rfl) ?_))))))
 refine XC rfl rfl rfl (WpL.nil (Qh rfl (fun h0 => ?_) (fun h0 => ?_)))
 ·refine Qb (Qa (Qd rfl rfl (WpL.nil (Qg ?_))))
  apply RetQ.mk
  ·exact (Res.one rfl rfl)
  ·exact ⟨by unfold Qk; (rw [if_pos (by omega)]; rfl), rfl⟩
  ·exact Ent.nil _
 ·refine Wp.skip (Qb (Qa (Qd rfl rfl (WpL.nil (Qg ?_)))))
  apply RetQ.mk
  ·exact (Res.one rfl rfl)
  ·exact ⟨by unfold Qk; (rw [if_neg (by omega)]; rfl), rfl⟩
  ·exact Ent.nil _

theorem Stride_spec (K : Int) (W : Nat) (H M : Int) (hR : RawH K (W : Int) H M) : Fn Tryz.prog 146 #[.agg #[.int .i64 K, .int .i64 (W : Int), .int .i64 H, .int .i64 M]] [] (fun v l => v = .int .i64 ((QJ K W (Qk M) : Nat) : Int) ∧ l = []) := by
 have hb := hR.bd
 have hch := YX K
 have hw := Xd M
 have hm1 : 0 ≤ (W : Int) * QY K ∧ (W : Int) * QY K ≤ 12288 := by rcases hch with e | e <;> rw [e] <;> omega
 have hm2 : 0 ≤ (W : Int) * QY K * ((Qk M : Nat) : Int) ∧ (W : Int) * QY K * ((Qk M : Nat) : Int) ≤ 24576 := by rcases hw with e | e <;> rw [e] <;> omega
 refine Qo (vs := [.agg #[.int .i64 K, .int .i64 (W : Int), .int .i64 H, .int .i64 M]]) Tryz.func146 rfl Tryz.ntmps146 rfl (Qb (Qa (Xb rfl rfl rfl ?_)))
 intro g1
 refine Qd rfl rfl (WpL.nil (Qb (Wp.block ?_)))
 refine Qb (Qa ?_)
 refine Qx (vs := [_, _, _, _]) rfl rfl rfl (by rfl) ?_
 refine Qj rfl rfl (by repeat' constructor) (Raw_spec _ _ _ _) ?_
 rintro _ _ ⟨rfl, rfl⟩
 simp only [Qv]
 refine Yq rfl rfl (Qd rfl rfl (WpL.nil (Qy rfl (fun hn => hn (by omega)) ?_)))
 refine Qb (Qa (Qi (o2 := 0) rfl rfl rfl (Qn rfl rfl (by rfl) ?_)))
 refine QI rfl rfl rfl (Qd rfl rfl (WpL.nil (Qh rfl (fun h1 => ?_) (fun h1 => ?_))))
 ·refine Qb (Qa (Qi (o2 := 1) rfl rfl rfl (Qn rfl rfl (by rfl) ?_)))
  refine Qj rfl rfl (by repeat' constructor) (Bytes_spec _ (by omega)) ?_
  rintro _ _ ⟨rfl, rfl⟩
  simp only [Qv]
  refine Qd rfl rfl (WpL.nil (Qg ?_))
  apply RetQ.mk
  ·exact (Res.one rfl rfl)
  ·exact ⟨by rw [show QJ K W (Qk M) = (W + 7) / 8 from if_pos h1]; rfl, rfl⟩
  ·exact Ent.nil _
 ·refine Wp.skip (Qb ?_)
  apply Q2 mixed [⟨14, _, []⟩, ⟨15, _, [0]⟩, ⟨16, _, []⟩, ⟨17, _, [2]⟩, ⟨18, _, [3]⟩, ⟨19, _, [1, 4]⟩, ⟨20, _, []⟩, ⟨21, _, [6, 3]⟩, ⟨22, _, [5, 7]⟩, ⟨2, _, [8, 7, 0, 1, 2, 3, 4, 5, 6]⟩] rfl
  ·refine AllObs.mk ?_ ?_
   ·exact Qi (o2 := 1) rfl rfl rfl (Qm rfl)
   refine AllObs.mk ?_ ?_
   ·refine Qn rfl rfl (by rfl) ?_
    exact Qm rfl
   refine AllObs.mk ?_ ?_
   ·refine Qx (vs := [_, _, _, _]) rfl rfl rfl (by rfl) ?_
    exact Qm rfl
   refine AllObs.mk ?_ ?_
   ·refine Qj rfl rfl (by repeat' constructor) (YY _ _ _ _ (by omega)) ?_
    rintro _ _ ⟨rfl, rfl⟩
    simp only [Qv]
    rw [show (if K % 3 = 0 then (3 : Int) else 1) = QY K from rfl]
    exact WpL.nil ⟨rfl, rfl, rfl, by exact Ent.refl _⟩
   refine AllObs.mk ?_ ?_
   ·exact s_fv rfl rfl rfl (Qm rfl)
   refine AllObs.mk ?_ ?_
   ·refine XU rfl rfl rfl (Qp (by omega) (by omega)) ?_
    exact Qm rfl
   refine AllObs.mk ?_ ?_
   ·refine Qx (vs := [_, _, _, _]) rfl rfl rfl (by rfl) ?_
    exact Qm rfl
   refine AllObs.mk ?_ ?_
   ·refine Qj rfl rfl (by repeat' constructor) (Zv _ _ _ _) ?_
    rintro _ _ ⟨rfl, rfl⟩
    simp only [Qv]
    exact WpL.nil ⟨rfl, rfl, rfl, by exact Ent.refl _⟩
   refine AllObs.mk ?_ ?_
   ·refine XU rfl rfl rfl (Qp (by omega) (by omega)) ?_
    exact Qm rfl
   refine AllObs.mk ?_ ?_
   ·exact Qd rfl rfl (Qm rfl)
   exact AllObs.nil
  ·refine Qg ?_
   apply RetQ.mk
   ·exact (Res.one rfl rfl)
   ·exact ⟨by rw [strd_int h1], rfl⟩
   ·exact Ent.nil _

end Go.Proofs.YtggamdlpiejbiaaGreat
namespace Go.Proofs.YtggamdlpiejbiaaGreat
open Go.RowKit Go.Shelf

theorem RawNew_spec (K : Int) (W : Nat) (H M : Int) (hR : RawH K (W : Int) H M) : Fn Tryz.prog 124 #[.agg #[.int .i64 K, .int .i64 (W : Int), .int .i64 H, .int .i64 M]] [] (fun v l => ∃ g g2 b0, (b0 : List Int).length = QJ K W (Qk M) ∧ (∀ x ∈ b0, x = 0) ∧ v = .tuple #[.pointer (some ⟨g, 0, none⟩), .int .i64 0] ∧ l = [Qz g [.int .i64 K, .int .i64 (W : Int), .int .i64 H, .int .i64 M, .slice (some ⟨g2, 0, none⟩) b0.length b0.length, .int .i64 0, .int .i64 0, .int .i64 0, .int .i64 0] 198, own 5 1 (some ⟨g2, 0, none⟩) b0.length b0.length (XM b0)]) := by
 have hb := hR.bd
 have hch := YX K
 have hw := Xd M
 have hsb := X8 (K := K) (W := W) hw (by omega) (by omega)
 refine Qo (vs := [.agg #[.int .i64 K, .int .i64 (W : Int), .int .i64 H, .int .i64 M]]) Tryz.func124 rfl Tryz.ntmps124 rfl (Qb (Qa (Xb rfl rfl rfl ?_)))
 intro g1
 refine Qd rfl rfl (Qd rfl rfl (WpL.nil (Qb (Qb (Qa ?_)))))
 refine Qx (vs := [_, _, _, _]) rfl rfl rfl (by rfl) ?_
 refine Qj rfl rfl (by repeat' constructor) (May_spec _ _ _ _) ?_
 rintro _ _ ⟨rfl, rfl⟩
 simp only [Qv]
 rw [decide_eq_true hR.1]
 refine Zz rfl rfl (Qc rfl rfl (Qf rfl rfl ?_))
 refine Qx (vs := [_, _, _, _]) rfl rfl rfl (by rfl) ?_
 refine Qf rfl rfl (Qj rfl rfl (by repeat' constructor) (Raw_spec _ _ _ _) ?_)
 rintro _ _ ⟨rfl, rfl⟩
 simp only [Qv]
 refine Qf rfl rfl (Yq rfl rfl (Qu rfl rfl rfl (WpL.nil (Qy rfl (fun hn => hn (by omega)) ?_))))
 refine Wp.skip (Qb ?_)
 apply Xe (fB := [Qz g1 [.int .i64 K, .int .i64 (W : Int), .int .i64 H, .int .i64 M] 98]) mixed [(3, false), (1, false)] (by kernel_rfl)
 apply Q4 [⟨0, 12, _, [], true⟩, ⟨1, 13, _, [], false⟩, ⟨2, 14, _, [1], false⟩] [] [1, 2] [16, 17, 2, 3, 12] (.inl ⟨_, by repeat' constructor⟩) rfl rfl rfl (by kernel_rfl) rfl rfl rfl
 ·refine QP rfl rfl rfl rfl ?_ ?_
  ·refine Qx (vs := [_, _, _, _]) rfl rfl rfl (by rfl) ?_
   exact Qm rfl
  refine AllF.cons rfl rfl rfl rfl ?_ ?_
  ·refine Qx (vs := [_, _, _, _]) rfl rfl rfl (by rfl) ?_
   exact Qm rfl
  refine AllF.cons rfl rfl rfl rfl ?_ ?_
  ·refine Qj rfl rfl (by repeat' constructor) (Stride_spec _ _ _ _ hR) ?_
   rintro _ _ ⟨rfl, rfl⟩
   simp only [Qv]
   exact WpL.nil ⟨rfl, rfl, rfl, by exact Ent.refl _⟩
  exact AllF.nil
 ·refine s_mko (QJ K W (Qk M)) rfl rfl rfl (by omega) (by omega) rfl ?_
  intro gB
  rw [u8s_zero]
  refine WpL.nil ⟨rfl, rfl, ?_⟩
  apply Q4 [⟨4, 16, _, [0, 3], false⟩] [0] [0, 4] [2, 3] (.inl ⟨_, by repeat' constructor⟩) rfl rfl rfl (by kernel_rfl) rfl rfl rfl
  ·refine AllF.cons rfl rfl rfl rfl ?_ ?_
   ·refine Xj rfl rfl ?_
    exact Qm rfl
   exact AllF.nil
  ·refine Xb rfl rfl rfl ?_
   intro g2
   refine WpL.nil ⟨rfl, rfl, ?_⟩
   apply GoR.nil [⟨6, 2, _, [0, 1, 2, 3, 4, 5], false⟩, ⟨7, 3, _, [0, 1, 2, 3, 4, 5, 6], false⟩] (.inr rfl) rfl rfl
   ·refine AllF.cons rfl rfl rfl rfl ?_ ?_
    ·exact Qd rfl rfl (Qm rfl)
    refine AllF.cons rfl rfl rfl rfl ?_ ?_
    ·exact Qd rfl rfl (Qm rfl)
    exact AllF.nil
   ·refine Qg ?_
    obtain ⟨b0, hb0e, hb0l⟩ : ∃ b0 : List Int, b0 = List.replicate (QJ K W (Qk M)) 0 ∧ b0.length = QJ K W (Qk M) := ⟨_, rfl, by simp⟩
    rw [← hb0e, ← hb0l]
    apply RetQ.mk
    ·exact (QT rfl rfl rfl)
    ·exact ⟨_, gB, b0, rfl, fun x hx => by rw [hb0e] at hx; exact (List.mem_replicate.1 hx).2, rfl, rfl⟩
    ·exact Take.ent' (by repeat' constructor)

theorem RawSample_spec (K : Int) (W : Nat) (H M : Int) (_hR : RawH K (W : Int) H M) (g : Nat) (a1 : Option Addr) (c1 : Nat) (bs : List Int) (hbs : ∀ x ∈ bs, 0 ≤ x ∧ x ≤ 255) (hbl : bs.length ≤ 100000) (n rows last e : Int) (i : Nat) (hi : (i + 1) * Qk M ≤ bs.length) : Fn Tryz.prog 167 #[.pointer (some ⟨g, 0, none⟩), .int .i64 (i : Int)] [Qz g [.int .i64 K, .int .i64 (W : Int), .int .i64 H, .int .i64 M, .slice a1 bs.length c1, .int .i64 n, .int .i64 rows, .int .i64 last, .int .i64 e] 198, own 5 1 a1 c1 bs.length (XM bs)] (fun v l => v = .int .i64 (Yd (Qk M) bs i) ∧ l = [Qz g [.int .i64 K, .int .i64 (W : Int), .int .i64 H, .int .i64 M, .slice a1 bs.length c1, .int .i64 n, .int .i64 rows, .int .i64 last, .int .i64 e] 198, own 5 1 a1 c1 bs.length (XM bs)]) := by
 have hw := Xd M
 refine Qo (vs := [.pointer (some ⟨g, 0, none⟩), .int .i64 (i : Int)]) Tryz.func167 rfl Tryz.ntmps167 rfl ?_
 refine Qb (Qa (Qd rfl rfl (WpL.nil (Qb (Qb (Qa (Qc rfl rfl (Qt rfl rfl (Qi (o2 := 0) rfl rfl rfl ?_)))))))))
 refine Qx (vs := [_, _, _, _]) rfl rfl rfl (by rfl) ?_
 refine Qj rfl rfl (by repeat' constructor) (Zv _ _ _ _) ?_
 rintro _ _ ⟨rfl, rfl⟩
 simp only [Qv]
 refine QI rfl rfl rfl (WpL.nil (Qh rfl (fun h0 => ?_) (fun h0 => ?_)))
 ·have hw1 : Qk M = 1 := by omega
  rw [hw1] at hi
  have hlt : i < bs.length := by omega
  have hx := hbs _ (List.getElem_mem hlt)
  refine Qb (Qa (Qc rfl rfl (Qt rfl rfl (Qi (o2 := 4) rfl rfl rfl (Qn rfl rfl (by rfl) ?_)))))
  refine Qc rfl rfl (Xo i rfl rfl rfl Q6 (by exact Take.ent' (by repeat' constructor)) rfl (by omega) (by rw [XA]; omega) ?_)
  refine Xp rfl rfl Q6 (by exact Take.ent' (by repeat' constructor)) (Zk bs hlt) ?_
  refine Yh rfl Tryz.underlying5 rfl (Qp (by omega) (by omega)) ?_
  refine Qd rfl rfl (WpL.nil (Qg ?_))
  apply RetQ.mk
  ·exact (Res.one rfl rfl)
  ·exact ⟨by rw [hw1]; unfold Yd; rw [if_pos rfl, List.getElem?_eq_getElem hlt]; rfl, rfl⟩
  ·exact Ent.refl _
 ·have hw2 : Qk M = 2 := by omega
  rw [hw2] at hi
  have hlt : 2 * i < bs.length := by omega
  have hlt2 : 2 * i + 1 < bs.length := by omega
  have hx := hbs _ (List.getElem_mem hlt)
  have hx2 := hbs _ (List.getElem_mem hlt2)
  refine Wp.skip (Qb ?_)
  apply Q2 mixed [⟨19, _, []⟩, ⟨20, _, [0]⟩, ⟨21, _, [1]⟩, ⟨22, _, [2]⟩, ⟨23, _, []⟩, ⟨24, _, [4]⟩, ⟨25, _, [3, 5]⟩, ⟨26, _, [6]⟩, ⟨27, _, [7]⟩, ⟨28, _, [8]⟩, ⟨29, _, []⟩, ⟨30, _, [10]⟩, ⟨31, _, [11]⟩, ⟨32, _, [12]⟩, ⟨33, _, []⟩, ⟨34, _, [14]⟩, ⟨35, _, [15]⟩, ⟨36, _, [13, 16]⟩, ⟨37, _, [17]⟩, ⟨38, _, [18]⟩, ⟨39, _, [9, 19]⟩, ⟨4, _, [20, 0, 1, 2, 3, 4, 5, 6, 7, 8, 9, 10, 11, 12, 13, 14, 15, 16, 17, 18, 19]⟩] rfl
  ·refine AllObs.mk ?_ ?_
   ·exact Qc rfl rfl (Qm rfl)
   refine AllObs.mk ?_ ?_
   ·exact Qt rfl rfl (Qm rfl)
   refine AllObs.mk ?_ ?_
   ·exact Qi (o2 := 4) rfl rfl rfl (Qm rfl)
   refine AllObs.mk ?_ ?_
   ·refine Qn rfl rfl (by rfl) ?_
    exact Qm rfl
   refine AllObs.mk ?_ ?_
   ·exact Qc rfl rfl (Qm rfl)
   refine AllObs.mk ?_ ?_
   ·refine XU rfl rfl rfl (Qp (by omega) (by omega)) ?_
    exact Qm rfl
   refine AllObs.mk ?_ ?_
   ·refine Xo (2 * i) rfl rfl rfl Q6 (by exact Take.ent' (by repeat' constructor)) (by omega) (by omega) (by rw [XA]; omega) ?_
    exact Qm rfl
   refine AllObs.mk ?_ ?_
   ·refine Xp rfl rfl Q6 (by exact Take.ent' (by repeat' constructor)) (Zk bs hlt) ?_
    exact Qm rfl
   refine AllObs.mk ?_ ?_
   ·refine Yh rfl Tryz.underlying5 rfl (Qp (by omega) (by omega)) ?_
    exact Qm rfl
   refine AllObs.mk ?_ ?_
   ·refine s_shl 256 rfl rfl rfl (by decide) (Qp (by omega) (by omega)) ?_
    exact Qm rfl
   refine AllObs.mk ?_ ?_
   ·exact Qc rfl rfl (Qm rfl)
   refine AllObs.mk ?_ ?_
   ·exact Qt rfl rfl (Qm rfl)
   refine AllObs.mk ?_ ?_
   ·exact Qi (o2 := 4) rfl rfl rfl (Qm rfl)
   refine AllObs.mk ?_ ?_
   ·refine Qn rfl rfl (by rfl) ?_
    exact Qm rfl
   refine AllObs.mk ?_ ?_
   ·exact Qc rfl rfl (Qm rfl)
   refine AllObs.mk ?_ ?_
   ·refine XU rfl rfl rfl (Qp (by omega) (by omega)) ?_
    exact Qm rfl
   refine AllObs.mk ?_ ?_
   ·refine Qw rfl rfl rfl (Qp (by omega) (by omega)) ?_
    exact Qm rfl
   refine AllObs.mk ?_ ?_
   ·refine Xo (2 * i + 1) rfl rfl rfl Q6 (by exact Take.ent' (by repeat' constructor)) (by omega) (by omega) (by rw [XA]; omega) ?_
    exact Qm rfl
   refine AllObs.mk ?_ ?_
   ·refine Xp rfl rfl Q6 (by exact Take.ent' (by repeat' constructor)) (Zk bs hlt2) ?_
    exact Qm rfl
   refine AllObs.mk ?_ ?_
   ·refine Yh rfl Tryz.underlying5 rfl (Qp (by omega) (by omega)) ?_
    exact Qm rfl
   refine AllObs.mk ?_ ?_
   ·refine s_or (bs[2 * i]'hlt) 8 rfl rfl rfl rfl hx.1 (by simp only [IntKind.bits]; omega) hx2.1 (by omega) (by decide) (Qp (by omega) (by omega)) ?_
    exact Qm rfl
   refine AllObs.mk ?_ ?_
   ·exact Qd rfl rfl (Qm rfl)
   exact AllObs.nil
  ·refine Qg ?_
   apply RetQ.mk
   ·exact (Res.one rfl rfl)
   ·exact ⟨by rw [hw2]; unfold Yd; rw [if_neg (by decide), List.getElem?_eq_getElem hlt, List.getElem?_eq_getElem hlt2]; rfl, rfl⟩
   ·exact Ent.refl _

end Go.Proofs.YtggamdlpiejbiaaGreat
namespace Go.Proofs.YtggamdlpiejbiaaGreat
open Go.RowKit Go.Shelf


structure SmX where
  (k : Nat) (a : Option Addr) (c : Nat)
theorem YH (w : Nat) (b : List Int) : (YG w b).length = b.length / w := by simp [YG]
theorem smps_take (w : Nat) (b : List Int) {k : Nat} (h : k < b.length / w) : (YG w b).take k ++ [Yd w b k] = (YG w b).take (k + 1) := by
  rw [List.take_succ_eq_append_getElem (by rw [YH]; exact h)]
  simp [YG]
theorem Yy (ch : Nat) (l : List Int) : (YM ch l).length = l.length / ch := by simp [YM]
theorem Y1 (ch : Nat) (l : List Int) {k : Nat} (h : k < l.length / ch) : (YM ch l).take k ++ [(Xw ((l.drop (k * ch)).take ch)).1] = (YM ch l).take (k + 1) := by
  rw [List.take_succ_eq_append_getElem (by rw [Yy]; exact h)]
  simp [YM]
theorem ZX (px : List Int) (L H : Nat) : ((Q3 px).drop (L * 1)).take ((H - L) * 1) = Q3 ((px.drop L).take (H - L)) := by simp [Q3, List.map_take, List.map_drop]
theorem strd_div {K : Int} {W w : Nat} (hw : w = 1 ∨ w = 2) (h : K ≠ 4) : QJ K W w / w = W * (QY K).toNat := by
  unfold QJ
  rw [if_neg h, Nat.mul_div_cancel _ (by omega)]
theorem Yn {K : Int} {W w : Nat} {bs : List Int} (hw : w = 1 ∨ w = 2) (h : bs.length = QJ K W w) : (YS K W w bs).length = W := by
  have hch := YX K
  unfold YS
  rw [Yy]
  split
  · rename_i h4
    have : (QY K).toNat = 1 := by rw [h4]; rfl
    rw [this, ubits_len, Nat.div_one]
  · rename_i h4
    rw [YH, h, strd_div hw h4, Nat.mul_div_cancel _ (by omega)]

set_option maxHeartbeats 1000000 in
theorem RawRow_a (K : Int) (W : Nat) (H M : Int) (hR : RawH K (W : Int) H M) (g : Nat) (a1 : Option Addr) (c1 : Nat) (bs : List Int) (hbs : ∀ x ∈ bs, 0 ≤ x ∧ x ≤ 255) (hbl : bs.length ≤ 100000) (n rows last e : Int) (hst : bs.length = QJ K W (Qk M)) (hbc : bs.length ≤ c1) (h4 : K = 4) : Fn Tryz.prog 168 #[.pointer (some ⟨g, 0, none⟩)] [Qz g [.int .i64 K, .int .i64 (W : Int), .int .i64 H, .int .i64 M, .slice a1 bs.length c1, .int .i64 n, .int .i64 rows, .int .i64 last, .int .i64 e] 198, own 5 1 a1 c1 bs.length (XM bs)] (fun v l => ∃ a3 c3, v = .slice a3 W c3 ∧ l = [Qz g [.int .i64 K, .int .i64 (W : Int), .int .i64 H, .int .i64 M, .slice a1 bs.length c1, .int .i64 n, .int .i64 rows, .int .i64 last, .int .i64 e] 198, own 5 1 a1 c1 bs.length (XM bs), own 92 1 a3 c3 W (Xy (YS K W (Qk M) bs))]) := by
 have hb := hR.bd
 have hch := YX K
 have hw := Xd M
 have hsb := X8 (K := K) (W := W) hw (by omega) (by omega)
 have hqd := Nat.div_le_self bs.length (Qk M)
 have hq0 : 0 ≤ (bs.length : Int) / ((Qk M : Nat) : Int) := Int.ediv_nonneg (by omega) (by omega)
 refine Qo (vs := [.pointer (some ⟨g, 0, none⟩)]) Tryz.func168 rfl Tryz.ntmps168 rfl ?_
 refine Qb (Qa (Qd rfl rfl (WpL.nil (Qb (Qa (Qd rfl rfl (WpL.nil (Qb (Qb (Qa (Qc rfl rfl (Qt rfl rfl ?_))))))))))))
 refine Qi (o2 := 0) rfl rfl rfl (Qi (o2 := 0) rfl rfl rfl (Qn rfl rfl (by rfl) ?_))
 refine QI rfl rfl rfl (WpL.nil (Q0 rfl h4 ?_))
 apply Xe (fB := []) mixed [(9, false)] (by kernel_rfl)
 apply Q4 [⟨0, 16, _, [], false⟩, ⟨1, 17, _, [0], false⟩, ⟨2, 18, _, [1], false⟩, ⟨3, 19, _, [2], false⟩, ⟨4, 20, _, [], false⟩, ⟨5, 21, _, [4], false⟩, ⟨6, 22, _, [5], false⟩, ⟨7, 23, _, [6], false⟩, ⟨8, 24, _, [7], false⟩] [] [0, 1, 2, 3, 4, 5, 6, 7, 8] [15, 26, 27, 3] (.inr rfl) rfl rfl rfl (by kernel_rfl) rfl rfl rfl
 ·refine AllF.cons rfl rfl rfl rfl ?_ ?_
  ·exact Qc rfl rfl (Qm rfl)
  refine AllF.cons rfl rfl rfl rfl ?_ ?_
  ·exact Qt rfl rfl (Qm rfl)
  refine AllF.cons rfl rfl rfl rfl ?_ ?_
  ·exact Qi (o2 := 4) rfl rfl rfl (Qm rfl)
  refine AllF.cons rfl rfl rfl rfl ?_ ?_
  ·refine Qn rfl rfl (by rfl) ?_
   exact Qm rfl
  refine AllF.cons rfl rfl rfl rfl ?_ ?_
  ·exact Qc rfl rfl (Qm rfl)
  refine AllF.cons rfl rfl rfl rfl ?_ ?_
  ·exact Qt rfl rfl (Qm rfl)
  refine AllF.cons rfl rfl rfl rfl ?_ ?_
  ·exact Qi (o2 := 0) rfl rfl rfl (Qm rfl)
  refine AllF.cons rfl rfl rfl rfl ?_ ?_
  ·exact Qi (o2 := 1) rfl rfl rfl (Qm rfl)
  refine AllF.cons rfl rfl rfl rfl ?_ ?_
  ·refine Qn rfl rfl (by rfl) ?_
   exact Qm rfl
  exact AllF.nil
 ·refine Qj rfl rfl (by repeat' constructor) (UnpackB_spec _ _ _ bs Q6 hbs (by omega) W (by omega) (by rw [hst]; exact if_pos h4) hbc) ?_
  rintro _ _ ⟨aL, cL, rfl, rfl⟩
  simp only [Qv]
  refine WpL.nil ⟨rfl, rfl, ?_⟩
  apply GoR.nil [⟨10, 15, _, [9], false⟩, ⟨11, 26, _, [10], false⟩, ⟨12, 27, _, [10], false⟩, ⟨13, 3, _, [0, 1, 2, 3, 4, 5, 6, 7, 8, 9, 10, 11], false⟩] (.inr rfl) rfl rfl
  ·refine AllF.cons rfl rfl rfl rfl ?_ ?_
   ·exact Qc rfl rfl (Qm rfl)
   refine AllF.cons rfl rfl rfl rfl ?_ ?_
   ·exact QK rfl rfl rfl (Qm rfl)
   refine AllF.cons rfl rfl rfl rfl ?_ ?_
   ·exact QK rfl rfl rfl (Qm rfl)
   refine AllF.cons rfl rfl rfl rfl ?_ ?_
   ·exact Qd rfl rfl (Qm rfl)
   exact AllF.nil
  ·refine Qb (Qa (X1 rfl ?_))
   intro gO
   refine WpL.nil (Qb (Qb (Qa (Qc rfl rfl (Qc rfl rfl (Qt rfl rfl (Qi (o2 := 0) rfl rfl rfl ?_)))))))
   refine Qx (vs := [_, _, _, _]) rfl rfl rfl (by rfl) ?_
   refine Qj rfl rfl (by repeat' constructor) (YY _ _ _ _ (by omega)) ?_
   rintro _ _ ⟨rfl, rfl⟩
   simp only [Qv]
   rw [show (if K % 3 = 0 then (3 : Int) else 1) = (((QY K).toNat : Nat) : Int) from by rw [Int.toNat_of_nonneg (by omega)]; rfl]
   have hrd : YS K W (Qk M) bs = YM (QY K).toNat (YT bs W) := by unfold YS; rw [if_pos h4]
   obtain ⟨ls, hls⟩ : ∃ ls, ls = YT bs W := ⟨_, rfl⟩
   rw [← hls] at hrd ⊢
   have hll : ls.length = W := by rw [hls, ubits_len]
   have hlsl : W = W * (QY K).toNat := by rw [h4]; exact (Nat.mul_one W).symm
   refine Y0 (T := 3) (xs := Q3 ls) (by repeat' constructor) (fun hlc => ?_)
   refine s_fv rfl rfl rfl (Qj rfl rfl (by repeat' constructor) (chunk_spec _ _ _ _ (by omega)) ?_)
   rintro _ _ ⟨gs, gn, rfl, rfl⟩
   simp only [Qv]
   refine WpL.nil (Wp.block ?_)
   refine Wp.rangeF (encs := fun k : Nat => [.slice (sla aL (k * (QY K).toNat) ((k + 1) * (QY K).toNat) 1) (QY K).toNat (QY K).toNat]) (xs := List.range W) (own := [Qz gs [.slice aL (W) cL] 26, Qz gn [.int .i64 (((QY K).toNat : Nat) : Int)] 3]) (own' := [Qz gs [.slice aL (W) cL] 26, Qz gn [.int .i64 (((QY K).toNat : Nat) : Int)] 3]) (m0 := [Qz gO [.slice none 0 0] 49, own 3 1 aL cL (W) (Q3 ls), Qz g [.int .i64 K, .int .i64 (W : Int), .int .i64 H, .int .i64 M, .slice a1 bs.length c1, .int .i64 n, .int .i64 rows, .int .i64 last, .int .i64 e] 198, own 5 1 a1 c1 bs.length (XM bs), own 92 1 none 0 0 []]) rfl rfl (chunk_iter aL cL (W) (QY K).toNat W (by omega) hlsl hlc (by omega) gs gn) (fun _ => rfl) rfl (fun k m => ∃ a9 c9, m = [Qz gO [.slice a9 k c9] 49, own 3 1 aL cL (W) (Q3 ls), Qz g [.int .i64 K, .int .i64 (W : Int), .int .i64 H, .int .i64 M, .slice a1 bs.length c1, .int .i64 n, .int .i64 rows, .int .i64 last, .int .i64 e] 198, own 5 1 a1 c1 bs.length (XM bs), own 92 1 a9 c9 (k) (Xy ((YM (QY K).toNat ls).take (k)))]) (fun _ _ _ => False) ?_ ?_ ?_ ?_ ?_
   ·exact ⟨none, 0, by rw [List.take_zero]; rfl⟩
   ·simp only [Qv]
    exact (Ent.own_nil (T := 92) (s := 1) (Ent.refl _)).trans (Take.ent' (by repeat' constructor))
   ·intro y k hk m hm
    obtain ⟨a9, c9, rfl⟩ := hm
    rw [List.getElem_range]
    rw [List.length_range] at hk
    have hkc : k < ls.length / (QY K).toNat := by rw [hll, hlsl, Nat.mul_div_cancel _ (by omega)]; exact hk
    have hks := ZY k (QY K).toNat
    have hkN1 : (k + 1) * (QY K).toNat ≤ ls.length := by rw [hll, hlsl]; exact Nat.mul_le_mul_right _ hk
    have hRo : RdsL [own 3 1 aL cL (W) (Q3 ls)] aL (Q3 ls) := Q6
    have hRw := hRo.sla (k * (QY K).toNat) ((k + 1) * (QY K).toNat) ((k + 1) * (QY K).toNat) 1 (Nat.le_refl _)
    rw [ZX, show (k + 1) * (QY K).toNat - k * (QY K).toNat = (QY K).toNat by omega] at hRw
    obtain ⟨one, hone⟩ : ∃ one, one = (ls.drop (k * (QY K).toNat)).take (QY K).toNat := ⟨_, rfl⟩
    have hol : one.length = (QY K).toNat := by rw [hone, List.length_take, List.length_drop]; omega
    rw [← hone] at hRw
    have hcs := Y1 (QY K).toNat ls hkc
    rw [← hone] at hcs
    have hPk := Pack_spec [own 3 1 aL cL (W) (Q3 ls)] (sla aL (k * (QY K).toNat) ((k + 1) * (QY K).toNat) 1) (QY K).toNat one hRw (by omega)
    rw [hol] at hPk
    refine Qa (Qd rfl rfl (WpL.nil (⟨rfl, rfl, ?_⟩)))
    refine Wp.block ?_
    refine Qb (Qa (Qc rfl rfl (Qj rfl rfl (by repeat' constructor) (hPk) ?_)))
    rintro _ _ ⟨rfl, rfl⟩
    simp only [Qv]
    refine Qc rfl rfl (QK rfl rfl rfl (QK rfl rfl rfl (Qd rfl rfl (Qd rfl rfl (WpL.nil (Qa (Qn rfl rfl (by rfl) ?_)))))))
    refine Qc rfl rfl ?_
    refine X6 rfl rfl rfl rfl ?_
    intro g2
    refine Xx rfl rfl rfl (by repeat' constructor) (by rfl) (by rfl) (by rfl) (by rfl) (by omega) (by omega) ?_
    intro a66 c66
    refine QN rfl rfl rfl (WpL.nil ?_)
    rw [YE, hcs]
    refine ⟨_, ⟨a66, c66, rfl⟩, ?_⟩
    exact Take.ent' (by repeat' constructor)
   ·intro q1 m hm
    obtain ⟨a9, c9, rfl⟩ := hm
    rw [List.length_range]
    simp only [Qv]
    rw [List.take_of_length_le (by rw [Yy, hll]; exact Nat.div_le_of_le_mul (by rw [Nat.mul_comm]; exact Nat.le_of_eq hlsl)), ← hrd]
    refine Qb (Qa (Qn rfl rfl (by rfl) ?_))
    refine Qd rfl rfl (WpL.nil (Qg ?_))
    apply RetQ.mkR [q1] rfl (by repeat' constructor)
    ·exact (Res.one rfl rfl)
    ·exact ⟨a9, c9, rfl, rfl⟩
    ·exact Take.ent' (by repeat' constructor)
   ·exact fun _ _ _ _ _ h => h.elim

set_option maxHeartbeats 1000000 in
theorem RawRow_b (K : Int) (W : Nat) (H M : Int) (hR : RawH K (W : Int) H M) (g : Nat) (a1 : Option Addr) (c1 : Nat) (bs : List Int) (hbs : ∀ x ∈ bs, 0 ≤ x ∧ x ≤ 255) (hbl : bs.length ≤ 100000) (n rows last e : Int) (hst : bs.length = QJ K W (Qk M)) (_hbc : bs.length ≤ c1) (h4 : K ≠ 4) : Fn Tryz.prog 168 #[.pointer (some ⟨g, 0, none⟩)] [Qz g [.int .i64 K, .int .i64 (W : Int), .int .i64 H, .int .i64 M, .slice a1 bs.length c1, .int .i64 n, .int .i64 rows, .int .i64 last, .int .i64 e] 198, own 5 1 a1 c1 bs.length (XM bs)] (fun v l => ∃ a3 c3, v = .slice a3 W c3 ∧ l = [Qz g [.int .i64 K, .int .i64 (W : Int), .int .i64 H, .int .i64 M, .slice a1 bs.length c1, .int .i64 n, .int .i64 rows, .int .i64 last, .int .i64 e] 198, own 5 1 a1 c1 bs.length (XM bs), own 92 1 a3 c3 W (Xy (YS K W (Qk M) bs))]) := by
 have hb := hR.bd
 have hch := YX K
 have hw := Xd M
 have hsb := X8 (K := K) (W := W) hw (by omega) (by omega)
 have hqd := Nat.div_le_self bs.length (Qk M)
 have hq0 : 0 ≤ (bs.length : Int) / ((Qk M : Nat) : Int) := Int.ediv_nonneg (by omega) (by omega)
 refine Qo (vs := [.pointer (some ⟨g, 0, none⟩)]) Tryz.func168 rfl Tryz.ntmps168 rfl ?_
 refine Qb (Qa (Qd rfl rfl (WpL.nil (Qb (Qa (Qd rfl rfl (WpL.nil (Qb (Qb (Qa (Qc rfl rfl (Qt rfl rfl ?_))))))))))))
 refine Qi (o2 := 0) rfl rfl rfl (Qi (o2 := 0) rfl rfl rfl (Qn rfl rfl (by rfl) ?_))
 refine QI rfl rfl rfl (WpL.nil (Qy rfl h4 (Qb ?_)))
 apply Q2 mixed [⟨28, _, []⟩, ⟨29, _, [0]⟩, ⟨30, _, [1]⟩, ⟨31, _, [2]⟩, ⟨32, _, [3]⟩, ⟨33, _, []⟩, ⟨34, _, [5]⟩, ⟨35, _, [6]⟩, ⟨36, _, [7]⟩, ⟨37, _, [8]⟩, ⟨38, _, [4, 9]⟩, ⟨39, _, []⟩] rfl
 ·refine AllObs.mk ?_ ?_
  ·exact Qc rfl rfl (Qm rfl)
  refine AllObs.mk ?_ ?_
  ·exact Qt rfl rfl (Qm rfl)
  refine AllObs.mk ?_ ?_
  ·exact Qi (o2 := 4) rfl rfl rfl (Qm rfl)
  refine AllObs.mk ?_ ?_
  ·refine Qn rfl rfl (by rfl) ?_
   exact Qm rfl
  refine AllObs.mk ?_ ?_
  ·exact QM rfl rfl (WpL.nil ⟨rfl, rfl, rfl, by exact Ent.refl _⟩)
  refine AllObs.mk ?_ ?_
  ·exact Qc rfl rfl (Qm rfl)
  refine AllObs.mk ?_ ?_
  ·exact Qt rfl rfl (Qm rfl)
  refine AllObs.mk ?_ ?_
  ·exact Qi (o2 := 0) rfl rfl rfl (Qm rfl)
  refine AllObs.mk ?_ ?_
  ·refine Qx (vs := [_, _, _, _]) rfl rfl rfl (by rfl) ?_
   exact Qm rfl
  refine AllObs.mk ?_ ?_
  ·refine Qj rfl rfl (by repeat' constructor) (Zv _ _ _ _) ?_
   rintro _ _ ⟨rfl, rfl⟩
   simp only [Qv]
   exact WpL.nil ⟨rfl, rfl, rfl, by exact Ent.refl _⟩
  refine AllObs.mk ?_ ?_
  ·refine Y5 rfl rfl rfl (by omega) (by omega) (by rw [show (bs.length : Int) / ((Qk M : Nat) : Int) = ((bs.length / Qk M : Nat) : Int) from rfl]; exact Qp (by omega) (by omega)) ?_
   rw [show (bs.length : Int) / ((Qk M : Nat) : Int) = ((bs.length / Qk M : Nat) : Int) from rfl]
   exact Qm rfl
  refine AllObs.mk ?_ ?_
  ·exact Qc rfl rfl (Qm rfl)
  exact AllObs.nil
 ·refine Wp.block ?_
  refine Wp.loopD (σ := SmX) (fun z => z.k ≤ (bs.length / Qk M)) [3, 4, 39, 40, 41, 42, 43, 44, 45, 46, 47, 48] (fun z => [(39, .int .i64 (z.k : Int)), (3, .slice z.a z.k z.c)]) (fun z => own 3 1 z.a z.c z.k (Q3 ((YG (Qk M) bs).take z.k)) :: [Qz g [.int .i64 K, .int .i64 (W : Int), .int .i64 H, .int .i64 M, .slice a1 bs.length c1, .int .i64 n, .int .i64 rows, .int .i64 last, .int .i64 e] 198, own 5 1 a1 c1 bs.length (XM bs)]) (fun z => (bs.length / Qk M) - z.k) ⟨0, none, 0⟩ ?_ (by repeat (first | exact FrLe.nil | refine FrLe.cons rfl ?_)) ?_ ?_
  ·exact Nat.zero_le _
  ·exact Ent.own_nil (T := 3) (s := 1) (Ent.refl _)
  ·rintro ⟨k, aL, cL⟩ hk
   dsimp only at hk ⊢
   refine Qb (Qa (Q9 rfl rfl rfl (WpL.nil (Qb (Qh rfl (fun h2 => ?_) (fun h2 => ?_))))))
   ·have hlt : k < (bs.length / Qk M) := by omega
    have hkw : (k + 1) * Qk M ≤ bs.length := Nat.le_trans (Nat.mul_le_mul_right _ hlt) (Nat.div_mul_le_self _ _)
    refine Wp.skip (Qb (Wp.block ?_))
    refine Qb (Qa (Qc rfl rfl (Qd rfl rfl (WpL.nil (Qa (Qc rfl rfl (Qc rfl rfl (Qc rfl rfl (Qj rfl rfl (by repeat' constructor) (RawSample_spec _ _ _ _ hR _ _ _ _ hbs (by omega) _ _ _ _ k hkw) ?_)))))))))
    rintro _ _ ⟨rfl, rfl⟩
    simp only [Qv]
    refine X6 rfl rfl rfl rfl ?_
    intro g1
    refine Xx rfl rfl rfl (by repeat' constructor) (by rfl) (by rfl) (by rfl) (by rfl) (by omega) (by omega) ?_
    intro a47 c47
    rw [X3, smps_take _ _ hlt]
    refine Qd rfl rfl (WpL.nil (Qa (Qw rfl rfl rfl (Qp (by omega) (by omega)) ?_)))
    refine Qc rfl rfl (WpL.nil (Qq (⟨k + 1, a47, c47⟩ : SmX) ?_ ?_ (by ((repeat (first | exact Top.refl | refine Top.push rfl ?_)); done)) (by repeat (first | exact FrLe.nil | refine FrLe.cons rfl ?_)) ?_))
    ·simp only; omega
    ·simp only; omega
    ·exact Ent.refl _
   ·have hke : k = (bs.length / Qk M) := by omega
    subst hke
    rw [List.take_of_length_le (by rw [YH]; exact Nat.le_refl _)]
    refine QS (Qb (Qa (X1 rfl ?_)))
    intro gO
    refine WpL.nil (Qb (Qb (Qa (Qc rfl rfl (Qc rfl rfl (Qt rfl rfl (Qi (o2 := 0) rfl rfl rfl ?_)))))))
    refine Qx (vs := [_, _, _, _]) rfl rfl rfl (by rfl) ?_
    refine Qj rfl rfl (by repeat' constructor) (YY _ _ _ _ (by omega)) ?_
    rintro _ _ ⟨rfl, rfl⟩
    simp only [Qv]
    rw [show (if K % 3 = 0 then (3 : Int) else 1) = (((QY K).toNat : Nat) : Int) from by rw [Int.toNat_of_nonneg (by omega)]; rfl]
    have hrd : YS K W (Qk M) bs = YM (QY K).toNat (YG (Qk M) bs) := by unfold YS; rw [if_neg h4]
    obtain ⟨ls, hls⟩ : ∃ ls, ls = YG (Qk M) bs := ⟨_, rfl⟩
    rw [← hls] at hrd ⊢
    have hll : ls.length = (bs.length / Qk M) := by rw [hls, YH]
    have hlsl : (bs.length / Qk M) = W * (QY K).toNat := by rw [hst]; exact strd_div hw h4
    refine Y0 (T := 3) (xs := Q3 ls) (by repeat' constructor) (fun hlc => ?_)
    refine s_fv rfl rfl rfl (Qj rfl rfl (by repeat' constructor) (chunk_spec _ _ _ _ (by omega)) ?_)
    rintro _ _ ⟨gs, gn, rfl, rfl⟩
    simp only [Qv]
    refine WpL.nil (Wp.block ?_)
    refine Wp.rangeF (encs := fun k : Nat => [.slice (sla aL (k * (QY K).toNat) ((k + 1) * (QY K).toNat) 1) (QY K).toNat (QY K).toNat]) (xs := List.range W) (own := [Qz gs [.slice aL ((bs.length / Qk M)) cL] 26, Qz gn [.int .i64 (((QY K).toNat : Nat) : Int)] 3]) (own' := [Qz gs [.slice aL ((bs.length / Qk M)) cL] 26, Qz gn [.int .i64 (((QY K).toNat : Nat) : Int)] 3]) (m0 := [Qz gO [.slice none 0 0] 49, own 3 1 aL cL ((bs.length / Qk M)) (Q3 ls), Qz g [.int .i64 K, .int .i64 (W : Int), .int .i64 H, .int .i64 M, .slice a1 bs.length c1, .int .i64 n, .int .i64 rows, .int .i64 last, .int .i64 e] 198, own 5 1 a1 c1 bs.length (XM bs), own 92 1 none 0 0 []]) rfl rfl (chunk_iter aL cL ((bs.length / Qk M)) (QY K).toNat W (by omega) hlsl hlc (by omega) gs gn) (fun _ => rfl) rfl (fun k m => ∃ a9 c9, m = [Qz gO [.slice a9 k c9] 49, own 3 1 aL cL ((bs.length / Qk M)) (Q3 ls), Qz g [.int .i64 K, .int .i64 (W : Int), .int .i64 H, .int .i64 M, .slice a1 bs.length c1, .int .i64 n, .int .i64 rows, .int .i64 last, .int .i64 e] 198, own 5 1 a1 c1 bs.length (XM bs), own 92 1 a9 c9 (k) (Xy ((YM (QY K).toNat ls).take (k)))]) (fun _ _ _ => False) ?_ ?_ ?_ ?_ ?_
    ·exact ⟨none, 0, by rw [List.take_zero]; rfl⟩
    ·simp only [Qv]
     exact (Ent.own_nil (T := 92) (s := 1) (Ent.refl _)).trans (Take.ent' (by repeat' constructor))
    ·intro y k hk m hm
     obtain ⟨a9, c9, rfl⟩ := hm
     rw [List.getElem_range]
     rw [List.length_range] at hk
     have hkc : k < ls.length / (QY K).toNat := by rw [hll, hlsl, Nat.mul_div_cancel _ (by omega)]; exact hk
     have hks := ZY k (QY K).toNat
     have hkN1 : (k + 1) * (QY K).toNat ≤ ls.length := by rw [hll, hlsl]; exact Nat.mul_le_mul_right _ hk
     have hRo : RdsL [own 3 1 aL cL ((bs.length / Qk M)) (Q3 ls)] aL (Q3 ls) := Q6
     have hRw := hRo.sla (k * (QY K).toNat) ((k + 1) * (QY K).toNat) ((k + 1) * (QY K).toNat) 1 (Nat.le_refl _)
     rw [ZX, show (k + 1) * (QY K).toNat - k * (QY K).toNat = (QY K).toNat by omega] at hRw
     obtain ⟨one, hone⟩ : ∃ one, one = (ls.drop (k * (QY K).toNat)).take (QY K).toNat := ⟨_, rfl⟩
     have hol : one.length = (QY K).toNat := by rw [hone, List.length_take, List.length_drop]; omega
     rw [← hone] at hRw
     have hcs := Y1 (QY K).toNat ls hkc
     rw [← hone] at hcs
     have hPk := Pack_spec [own 3 1 aL cL ((bs.length / Qk M)) (Q3 ls)] (sla aL (k * (QY K).toNat) ((k + 1) * (QY K).toNat) 1) (QY K).toNat one hRw (by omega)
     rw [hol] at hPk
     refine Qa (Qd rfl rfl (WpL.nil (⟨rfl, rfl, ?_⟩)))
     refine Wp.block ?_
     refine Qb (Qa (Qc rfl rfl (Qj rfl rfl (by repeat' constructor) (hPk) ?_)))
     rintro _ _ ⟨rfl, rfl⟩
     simp only [Qv]
     refine Qc rfl rfl (QK rfl rfl rfl (QK rfl rfl rfl (Qd rfl rfl (Qd rfl rfl (WpL.nil (Qa (Qn rfl rfl (by rfl) ?_)))))))
     refine Qc rfl rfl ?_
     refine X6 rfl rfl rfl rfl ?_
     intro g3
     refine Xx rfl rfl rfl (by repeat' constructor) (by rfl) (by rfl) (by rfl) (by rfl) (by omega) (by omega) ?_
     intro a66 c66
     refine QN rfl rfl rfl (WpL.nil ?_)
     rw [YE, hcs]
     refine ⟨_, ⟨a66, c66, rfl⟩, ?_⟩
     exact Take.ent' (by repeat' constructor)
    ·intro q1 m hm
     obtain ⟨a9, c9, rfl⟩ := hm
     rw [List.length_range]
     simp only [Qv]
     rw [List.take_of_length_le (by rw [Yy, hll]; exact Nat.div_le_of_le_mul (by rw [Nat.mul_comm]; exact Nat.le_of_eq hlsl)), ← hrd]
     refine Qb (Qa (Qn rfl rfl (by rfl) ?_))
     refine Qd rfl rfl (WpL.nil (Qg ?_))
     apply RetQ.mkR [q1] rfl (by repeat' constructor)
     ·exact (Res.one rfl rfl)
     ·exact ⟨a9, c9, rfl, rfl⟩
     ·exact Take.ent' (by repeat' constructor)
    ·exact fun _ _ _ _ _ h => h.elim

end Go.Proofs.YtggamdlpiejbiaaGreat
