/- Walks and plain laws, a part of the proof of ImageTurns: every input that the law's guards let in, no condition beside. -/
import Derived.Test.YtggamdlpiejbiaaGreatM15
namespace Go.Proofs.YtggamdlpiejbiaaGreat
open Go.RowKit Go.Shelf


theorem RawPut_spec (K : Int) (W : Nat) (H M : Int) (hR : RawH K (W : Int) H M) (g : Nat) (a1 : Option Addr) (c1 : Nat) (bs : List Int) (hbs : ∀ x ∈ bs, 0 ≤ x ∧ x ≤ 255) (hbl : bs.length ≤ 100000) (n : Nat) (rows last e : Int) (hst : bs.length = QD K W (Qi M)) (hbc : bs.length ≤ c1) (hn : n < bs.length) (hro : 0 ≤ rows ∧ rows ≤ 100000) (c : Int) (hc0 : 0 ≤ c) (hc1 : c ≤ 255) : Fn Tryz.prog 125 #[.pointer (some ⟨g, 0, none⟩), .int .u8 c] [QB g [.int .i64 K, .int .i64 (W : Int), .int .i64 H, .int .i64 M, .slice a1 bs.length c1, .int .i64 (n : Int), .int .i64 rows, .int .i64 last, .int .i64 e] 198, QG 5 1 a1 c1 bs.length (Xn bs)] (fun v l => ∃ b' n' rows' last' e' out a3 c3, ((⟨b', n', rows', last', e'⟩ : RW), out) = Xm K W H M ⟨bs, n, rows, last, e⟩ c ∧ v = .tuple #[.slice a3 out.length c3, .int .i64 last'] ∧ l = [QB g [.int .i64 K, .int .i64 (W : Int), .int .i64 H, .int .i64 M, .slice a1 b'.length c1, .int .i64 (n' : Int), .int .i64 rows', .int .i64 last', .int .i64 e'] 198, QG 5 1 a1 c1 b'.length (Xn b'), QG 92 1 a3 c3 out.length (Q5 out)] ∧ (out = [] → a3 = none)) := by
  by_cases h4 : K = 4
  · exact RawPut_a K W H M hR g a1 c1 bs hbs hbl n rows last e hst hbc hn hro c hc0 hc1 h4
  · by_cases hm : ((n : Int) + 1) % ((Qi M : Nat) : Int) = 0
    · exact RawPut_c K W H M hR g a1 c1 bs hbs hbl n rows last e hst hbc hn hro c hc0 hc1 h4 hm
    · exact RawPut_b K W H M hR g a1 c1 bs hbs hbl n rows last e hst hbc hn hro c hc0 hc1 h4 hm
theorem putW_ok {K : Int} {W : Nat} {H M c : Int} {s s' : RW} {out : List Int} (hs : s.b.length = QD K W (Qi M)) (hb : ∀ x ∈ s.b, 0 ≤ x ∧ x ≤ 255) (hc0 : 0 ≤ c) (hc1 : c ≤ 255) (hn : s.n < s.b.length) (hl : s.last = 0) (hr : 0 ≤ s.rows ∧ s.rows < H) (h : (s', out) = Xm K W H M s c) :
    s'.b.length = s.b.length ∧ (∀ x ∈ s'.b, 0 ≤ x ∧ x ≤ 255) ∧ out.length ≤ W ∧ (s'.last = 0 ∨ s'.last = 1 ∨ s'.last = 2) ∧ (s'.last = 0 → s'.n < s'.b.length ∧ 0 ≤ s'.rows ∧ s'.rows < H) := by
  have hw := Q4 M
  have hl2 : (s.b.set s.n c).length = s.b.length := List.length_set
  have hb2 := set_bd (n := s.n) hb hc0 hc1
  unfold Xm at h
  rw [if_neg (by omega)] at h
  split at h
  · injection h with h1 h2
    subst h1; subst h2
    exact ⟨hl2, hb2, by simp, .inr (.inr rfl), fun e => by cases e⟩
  · split at h
    · rename_i hlt
      injection h with h1 h2
      subst h1; subst h2
      exact ⟨hl2, hb2, by simp, .inl rfl, fun _ => ⟨by simp only [hl2]; exact hlt, hr.1, hr.2⟩⟩
    · injection h with h1 h2
      subst h1; subst h2
      refine ⟨hl2, hb2, by rw [YL hw (hl2.trans hs)]; exact Nat.le_refl _, ?_, ?_⟩
      · dsimp only; split
        · exact .inr (.inl rfl)
        · exact .inl rfl
      · dsimp only; split
        · intro e; cases e
        · intro _; exact ⟨by rw [hl2]; omega, by omega, by omega⟩
structure RdWX where
  (k : Nat) (b : List Int) (n : Nat) (rows e : Int) (acc : List Int) (aA : Option Addr) (cA : Nat)

set_option maxHeartbeats 2000000 in
theorem RawRead_spec (A0 : HP) (a0 : Option Addr) (c0 : Nat) (bs : List Int) (hA : RdsL [A0] a0 (Xn bs)) (hbs : ∀ x ∈ bs, 0 ≤ x ∧ x ≤ 255) (hbl : bs.length ≤ 2000000000) (K : Int) (W : Nat) (H M : Int) (hR : RawH K (W : Int) H M) : Fn Tryz.prog 77 #[.slice a0 bs.length c0, .agg #[.int .i64 K, .int .i64 (W : Int), .int .i64 H, .int .i64 M]] [A0] (fun v l => ∃ b0 out er a c, b0.length = QD K W (Qi M) ∧ (out, er) = YK K W H M bs ⟨b0, 0, 0, 0, 0⟩ [] ∧ v = .tuple #[.slice a out.length c, .int .i64 er] ∧ l = [QG 92 1 a c out.length (Q5 out), A0]) := by
 have hb := hR.bd
 have hch := Ye K
 have hw := Q4 M
 have hsb := XZ (K := K) (W := W) hw (by omega) (by omega)
 refine Qk (vs := [.slice a0 bs.length c0, .agg #[.int .i64 K, .int .i64 (W : Int), .int .i64 H, .int .i64 M]]) Tryz.func77 rfl Tryz.ntmps77 rfl (Qb (Qa (QP rfl rfl rfl ?_)))
 intro g1
 refine Qe rfl rfl (Qe rfl rfl (WpL.nil (Qb (Qa ?_))))
 refine Qz (vs := [_, _, _, _]) rfl rfl rfl (by rfl) ?_
 refine Qg rfl rfl (by repeat' constructor) (Za _ _ _ _ hR) ?_
 rintro _ _ ⟨gR, gB, b0, hb0, hb0z, rfl, rfl⟩
 simp only [Qr]
 refine Qd rfl rfl (QC rfl rfl rfl (QC rfl rfl rfl (Qe rfl rfl (Qe rfl rfl (WpL.nil (Qb (Qb (Qa (Qd rfl rfl (Xj rfl rfl rfl (WpL.nil (QA rfl (by simp) ?_))))))))))))
 refine Wp.skip (Qb (Qa (Qd rfl rfl (s_mkfb rfl rfl rfl (Qe rfl rfl (WpL.nil (Qb (Qa (Qe rfl rfl (WpL.nil (Qb (Qb ?_))))))))))))
 refine Qa (Qd rfl rfl (QK rfl rfl (Qd rfl rfl (WpL.nil (Wp.block ?_)))))
 refine Wp.loopD (σ := RdWX) (fun x => x.k ≤ bs.length ∧ x.b.length = b0.length ∧ (∀ y ∈ x.b, 0 ≤ y ∧ y ≤ 255) ∧ x.n < x.b.length ∧ (0 ≤ x.rows ∧ x.rows < H) ∧ x.acc.length ≤ 4096 * x.k ∧ YK K W H M bs ⟨b0, 0, 0, 0, 0⟩ [] = YK K W H M (bs.drop x.k) ⟨x.b, x.n, x.rows, 0, x.e⟩ x.acc) [4, 5, 9, 11, 12, 13, 26, 27, 28, 29, 30, 31, 32, 33, 34, 35, 36, 37, 38, 39, 40, 41, 42, 43, 44, 45, 46, 47, 48, 49] (fun x => [(26, .int .i64 (x.k : Int)), (9, .slice x.aA x.acc.length x.cA)]) (fun x => [QB gR [.int .i64 K, .int .i64 (W : Int), .int .i64 H, .int .i64 M, .slice (some ⟨gB, 0, none⟩) x.b.length b0.length, .int .i64 (x.n : Int), .int .i64 x.rows, .int .i64 0, .int .i64 x.e] 198, QG 5 1 (some ⟨gB, 0, none⟩) b0.length x.b.length (Xn x.b), QG 92 1 x.aA x.cA x.acc.length (Q5 x.acc), A0]) (fun x => bs.length - x.k) ⟨0, b0, 0, 0, 0, [], none, 0⟩ ?_ (by repeat (first | exact FrLe.nil | refine FrLe.cons rfl ?_)) ?_ ?_
 ·exact ⟨Nat.zero_le _, rfl, fun y hy => by rw [hb0z y hy]; omega, by simp only; omega, by simp only; omega, by simp, rfl⟩
 ·exact (Ent.own_nil (T := 92) (s := 1) (Ent.refl _)).trans (Take.ent' (by repeat' constructor))
 ·rintro ⟨k, b, n, rows, e, acc, aA, cA⟩ ⟨hk, hbl2, hbb, hn, hro, hac, hrd⟩
  dsimp only at hk hbl2 hbb hn hro hac hrd ⊢
  refine Qb (Qa (Q6 rfl rfl rfl (WpL.nil (Qb (Qm rfl (fun h2 => ?_) (fun h2 => ?_))))))
  ·have hlt : k < bs.length := by omega
   have hcb := hbs _ (List.getElem_mem hlt)
   refine Wp.skip (Qb (Wp.block ?_))
   refine Qb (Qa (Q3 k rfl rfl rfl hA (by exact Take.ent' (by repeat' constructor)) rfl (by omega) (by rw [Q1]; omega) ?_))
   refine Xb rfl rfl hA (by exact Take.ent' (by repeat' constructor)) (YQ bs hlt) ?_
   refine Qe rfl rfl (WpL.nil (Qb (Qa (Qd rfl rfl (Qd rfl rfl (XU (u := [.pointer (some ⟨gR, 0, none⟩)]) (c := []) rfl rfl rfl rfl (by repeat' constructor) (RawPut_spec K W H M hR gR _ _ b hbb (by omega) n rows 0 e (by omega) (by omega) hn (by omega) _ hcb.1 hcb.2) ?_))))))
   rintro _ _ ⟨b', n', rows', last', e', out, a3, c3, hs, rfl, rfl, hnl⟩
   simp only [Qr]
   have ho := putW_ok (s := ⟨b, n, rows, 0, e⟩) (hbl2.trans hb0) hbb hcb.1 hcb.2 hn rfl hro hs
   obtain ⟨hb'l, hb'b, hol, hlc, _⟩ := id ho
   dsimp only at hb'l hb'b hlc
   have hstep : YK K W H M (bs.drop k) ⟨b, n, rows, 0, e⟩ acc = if last' = 1 then (acc ++ out, 0) else if last' = 2 then ([], e') else YK K W H M (bs.drop (k + 1)) ⟨b', n', rows', last', e'⟩ (acc ++ out) := by rw [List.drop_eq_getElem_cons hlt, YK, ← hs]
   refine Qd rfl rfl (QC rfl rfl rfl (QC rfl rfl rfl (Qe rfl rfl (Qe rfl rfl (WpL.nil (Qb (Qa (Qd rfl rfl (Qd rfl rfl (s_appo rfl rfl rfl (by repeat' constructor) (by rfl) (by rfl) (pxs_one _) (by omega) (by omega) ?_))))))))))
   intro a38 c38
   rw [pxs_app, ← List.length_append]
   refine Qe rfl rfl (WpL.nil (Qb (Qa (Qd rfl rfl (WpL.nil (Wp.block ?_))))))
   refine Qb (Qa (QO rfl rfl rfl (Qe rfl rfl (WpL.nil (Qm rfl (fun hl1 => ?_) (fun hl1 => ?_))))))
   ·refine Qb (Qa (Qd rfl rfl (Qe rfl rfl (Qe rfl rfl (WpL.nil (Qh ?_))))))
    apply RetQ.mk
    ·exact (QF rfl rfl rfl)
    ·exact ⟨b0, acc ++ out, 0, a38, c38, hb0, by rw [hrd, hstep, if_pos hl1], rfl, rfl⟩
    ·exact Take.ent' (by repeat' constructor)
   ·refine Qb (Qa (QO rfl rfl rfl (Qe rfl rfl (WpL.nil (Qm rfl (fun hl2 => ?_) (fun hl2 => ?_))))))
    ·refine Qb ?_
     apply QS mixed [⟨45, _, []⟩, ⟨46, _, [0]⟩, ⟨47, _, [1]⟩, ⟨48, _, [2]⟩, ⟨4, _, []⟩, ⟨5, _, [3, 4, 0, 1, 2]⟩] rfl
     ·refine AllObs.mk ?_ ?_
      ·exact Qd rfl rfl (Ql rfl)
      refine AllObs.mk ?_ ?_
      ·exact Qs rfl rfl (Ql rfl)
      refine AllObs.mk ?_ ?_
      ·exact Qj (o2 := 8) rfl rfl rfl (Ql rfl)
      refine AllObs.mk ?_ ?_
      ·refine Qo rfl rfl (by rfl) ?_
       exact Ql rfl
      refine AllObs.mk ?_ ?_
      ·exact Qe rfl rfl (Ql rfl)
      refine AllObs.mk ?_ ?_
      ·exact Qe rfl rfl (Ql rfl)
      exact AllObs.nil
     ·refine Qh ?_
      apply RetQ.mk
      ·exact (QF rfl rfl rfl)
      ·exact ⟨b0, [], e', none, 0, hb0, by rw [hrd, hstep, if_neg hl1, if_pos hl2], rfl, rfl⟩
      ·exact (Ent.own_nil (T := 92) (s := 1) (Ent.refl _)).trans (Take.ent' (by repeat' constructor))
    ·have hl0 : last' = 0 := by omega
     subst hl0
     refine Wp.skip (Qa (QE rfl rfl rfl (Qt (by omega) (by omega)) ?_))
     refine Qd rfl rfl (WpL.nil (Qy (⟨k + 1, b', n', rows', e', acc ++ out, a38, c38⟩ : RdWX) ?_ ?_ (by ((repeat (first | exact Top.refl | refine Top.push rfl ?_)); done)) (by repeat (first | exact FrLe.nil | refine FrLe.cons rfl ?_)) ?_))
     ·exact ⟨by simp only; omega, by simp only; omega, hb'b, (ho.2.2.2.2 rfl).1, (ho.2.2.2.2 rfl).2, by simp only [List.length_append]; omega, by simp only; rw [hrd, hstep, if_neg (by simp), if_neg (by simp)]⟩
     ·simp only; omega
     ·exact Take.ent' (by repeat' constructor)
  ·have hke : k = bs.length := by omega
   refine QL (Qb (Qa (Qe rfl rfl (Qe rfl rfl (WpL.nil (Qh ?_))))))
   apply RetQ.mk
   ·exact (QF rfl rfl rfl)
   ·exact ⟨b0, [], 6, none, 0, hb0, by rw [hrd, hke, List.drop_length]; rfl, rfl, rfl⟩
   ·exact (Ent.own_nil (T := 92) (s := 1) (Ent.refl _)).trans (Take.ent' (by repeat' constructor))

end Go.Proofs.YtggamdlpiejbiaaGreat
namespace Go.Proofs.YtggamdlpiejbiaaGreat
open Go.RowKit Go.Shelf


theorem ZE (K : Int) (W w : Nat) (px : List Int) (n : Nat) : Xk K W w px (n + 1) = Xk K W w px n ++ Zn K w (((px.drop (n * W)).take W).flatMap Qp) := by simp [Xk, wrRows, List.range_succ]
theorem can_fit {K M p : Int} (h : X1 p (QZ K) M) : ((Qp p).length : Int) = QZ K := h.2.1
theorem YY {l : List Int} {j : Nat} (h : j < l.length) : ((l.take j).flatMap Qp) ++ Qp l[j] = (l.take (j + 1)).flatMap Qp := by
  rw [Xd l h, List.flatMap_append]; simp
theorem flat_le (l : List Int) : (l.flatMap Qp).length ≤ 3 * l.length := by
  induction l with
  | nil => simp
  | cons p l ih => have := Xs p; rw [List.flatMap_cons, List.length_append, List.length_cons]; omega
theorem enc_snoc {w : Nat} {l : List Int} {j : Nat} (h : j < l.length) : ((l.take j).flatMap (Y8 w)) ++ Y8 w l[j] = (l.take (j + 1)).flatMap (Y8 w) := by
  rw [Xd l h, List.flatMap_append]; simp
theorem enc_le (w : Nat) (l : List Int) : (l.flatMap (Y8 w)).length ≤ 2 * l.length := by
  induction l with
  | nil => simp
  | cons p l ih =>
    have : (Y8 w p).length ≤ 2 := by unfold Y8; split <;> simp
    rw [List.flatMap_cons, List.length_append, List.length_cons]; omega
theorem Ym {K : Int} {W w : Nat} (hw : w = 1 ∨ w = 2) {px : List Int} {Hn : Nat} (hpl : px.length = W * Hn) (hl : ∀ p ∈ px, (Qp p).length = (QZ K).toNat) : ∀ n, n ≤ Hn → (Xk K W w px n).length = QD K W w * n
  | 0, _ => by simp [Xk, wrRows]
  | n + 1, h => by
    rw [ZE, List.length_append, Ym hw hpl hl n (by omega), Nat.mul_add, Nat.mul_one]
    congr 1
    have hrl : ((px.drop (n * W)).take W).length = W := by
      rw [List.length_take, List.length_drop, hpl]
      have : (n + 1) * W ≤ Hn * W := Nat.mul_le_mul_right _ h
      rw [Nat.add_mul, Nat.one_mul, Nat.mul_comm Hn] at this
      omega
    have hfl := flat_len ((px.drop (n * W)).take W) fun p hp => hl p (List.mem_of_mem_drop (List.mem_of_mem_take hp))
    rw [hrl] at hfl
    unfold Zn QD
    split
    · rename_i h4
      have e1 : (QZ K).toNat = 1 := by rw [h4]; rfl
      rw [packB_len, hfl, e1, Nat.mul_one]
    · rw [enc_len hw, hfl]
def zs (n : Nat) : List Int := List.replicate n 0
theorem row_put {A R : List Int} {n st N : Nat} (hA : A.length = st * n) (_hR : R.length = st) (hN : st * (n + 1) ≤ N) : ((A ++ zs (N - st * n)).take (st * n)) ++ R ++ ((A ++ zs (N - st * n)).drop (st * n + st)) = (A ++ R) ++ zs (N - st * (n + 1)) := by
  have e : st * (n + 1) = st * n + st := by rw [Nat.mul_add, Nat.mul_one]
  rw [← hA, List.take_left, ← List.drop_drop, List.drop_left]
  congr 1
  unfold zs
  rw [List.drop_replicate]
  congr 1
  omega
theorem ints_ne {l : List Int} (h : l ≠ []) : QU l ≠ [] := fun e => h (by cases l with | nil => rfl | cons x l => cases e)
structure WyX where
  (y : Nat)
structure WjX where
  (j : Nat) (a : Option Addr) (c m : Nat)

theorem Size_spec (K : Int) (W Hn : Nat) (M : Int) (hR : RawH K (W : Int) (Hn : Int) M) : Fn Tryz.prog 75 #[.agg #[.int .i64 K, .int .i64 (W : Int), .int .i64 (Hn : Int), .int .i64 M]] [] (fun v l => v = .int .i64 ((QD K W (Qi M) * Hn : Nat) : Int) ∧ l = []) := by
 have hb := hR.bd
 have hch := Ye K
 have hw := Q4 M
 have hsb := XZ (K := K) (W := W) hw (by omega) (by omega)
 have hWH : W * Hn ≤ 4096 * 65536 := Nat.mul_le_mul (by omega) (by omega)
 have hWHi : (W : Int) * (Hn : Int) = ((W * Hn : Nat) : Int) := by push_cast; rfl
 have hs1 : (2 : Int) * (W : Int) * (Hn : Int) = ((2 * (W * Hn) : Nat) : Int) := by rw [Int.mul_assoc, hWHi]; push_cast; rfl
 have hs2 : 0 ≤ (2 : Int) * (W : Int) * (Hn : Int) * QZ K ∧ (2 : Int) * (W : Int) * (Hn : Int) * QZ K ≤ 4000000000 := by rw [hs1]; rcases hch with e | e <;> rw [e] <;> omega
 have hs3 : 0 ≤ (W : Int) * (Hn : Int) * QZ K ∧ (W : Int) * (Hn : Int) * QZ K ≤ 2000000000 := by rw [hWHi]; rcases hch with e | e <;> rw [e] <;> omega
 have hs4 : 0 ≤ (Hn : Int) * (((W : Int) + 7) / 8) ∧ (Hn : Int) * (((W : Int) + 7) / 8) ≤ 65536 * 4096 := ⟨Int.mul_nonneg (by omega) (by omega), Int.mul_le_mul (by omega) (by omega) (by omega) (by omega)⟩
 refine Qk (vs := [.agg #[.int .i64 K, .int .i64 (W : Int), .int .i64 (Hn : Int), .int .i64 M]]) Tryz.func75 rfl Tryz.ntmps75 rfl (Qb (Qa (QP rfl rfl rfl ?_)))
 intro g1
 refine Qe rfl rfl (WpL.nil (Qb (Wp.block ?_)))
 refine Qb (Qa ?_)
 refine Qz (vs := [_, _, _, _]) rfl rfl rfl (by rfl) ?_
 refine Qg rfl rfl (by repeat' constructor) (Y0 _ _ _ _) ?_
 rintro _ _ ⟨rfl, rfl⟩
 simp only [Qr]
 refine XY rfl rfl (Qe rfl rfl (WpL.nil (QA rfl (fun hn => hn (by omega)) ?_)))
 refine Qb (Qa (Qj (o2 := 0) rfl rfl rfl (Qo rfl rfl (by rfl) ?_)))
 refine QO rfl rfl rfl (Qe rfl rfl (WpL.nil (Qm rfl (fun h1 => ?_) (fun h1 => ?_))))
 ·refine Qb (Qa (Qj (o2 := 2) rfl rfl rfl (Qo rfl rfl (by rfl) ?_)))
  refine Qj (o2 := 1) rfl rfl rfl (Qo rfl rfl (by rfl) ?_)
  refine QE rfl rfl rfl (Qt (by omega) (by omega)) ?_
  refine Y5 rfl rfl rfl (by omega) (by omega) (Qt (by omega) (by omega)) ?_
  refine Xz rfl rfl rfl (Qt (by omega) (by omega)) ?_
  refine Qe rfl rfl (WpL.nil (Qh ?_))
  apply RetQ.mk
  ·exact (Res.one rfl rfl)
  ·exact ⟨by rw [show QD K W (Qi M) = (W + 7) / 8 from if_pos h1, Int.mul_comm]; rfl, rfl⟩
  ·exact Ent.nil _
 ·refine Qb (Qa (Qj (o2 := 3) rfl rfl rfl (Qo rfl rfl (by rfl) ?_)))
  refine s_gt rfl rfl rfl (Qe rfl rfl (WpL.nil (Qm rfl (fun h2 => ?_) (fun h2 => ?_))))
  ·refine Qb ?_
   apply QS mixed [⟨22, _, []⟩, ⟨23, _, [0]⟩, ⟨24, _, [1]⟩, ⟨25, _, []⟩, ⟨26, _, [3]⟩, ⟨27, _, [2, 4]⟩, ⟨28, _, []⟩, ⟨29, _, [6]⟩, ⟨30, _, [7]⟩, ⟨31, _, [5, 8]⟩, ⟨2, _, [9, 7, 0, 1, 2, 3, 4, 5, 6, 8]⟩] rfl
   ·refine AllObs.mk ?_ ?_
    ·exact Qj (o2 := 1) rfl rfl rfl (Ql rfl)
    refine AllObs.mk ?_ ?_
    ·refine Qo rfl rfl (by rfl) ?_
     exact Ql rfl
    refine AllObs.mk ?_ ?_
    ·refine Xz rfl rfl rfl (Qt (by omega) (by omega)) ?_
     exact Ql rfl
    refine AllObs.mk ?_ ?_
    ·exact Qj (o2 := 2) rfl rfl rfl (Ql rfl)
    refine AllObs.mk ?_ ?_
    ·refine Qo rfl rfl (by rfl) ?_
     exact Ql rfl
    refine AllObs.mk ?_ ?_
    ·refine Xz rfl rfl rfl (Qt (by omega) (by omega)) ?_
     exact Ql rfl
    refine AllObs.mk ?_ ?_
    ·refine Qz (vs := [_, _, _, _]) rfl rfl rfl (by rfl) ?_
     exact Ql rfl
    refine AllObs.mk ?_ ?_
    ·refine Qg rfl rfl (by repeat' constructor) (Xo _ _ _ _ (by omega)) ?_
     rintro _ _ ⟨rfl, rfl⟩
     simp only [Qr]
     rw [show (if K % 3 = 0 then (3 : Int) else 1) = QZ K from rfl]
     exact WpL.nil ⟨rfl, rfl, rfl, by exact Ent.refl _⟩
    refine AllObs.mk ?_ ?_
    ·exact s_fv rfl rfl rfl (Ql rfl)
    refine AllObs.mk ?_ ?_
    ·refine Xz rfl rfl rfl (Qt (by omega) (by omega)) ?_
     exact Ql rfl
    refine AllObs.mk ?_ ?_
    ·exact Qe rfl rfl (Ql rfl)
    exact AllObs.nil
   ·refine Qh ?_
    apply RetQ.mk
    ·exact (Res.one rfl rfl)
    ·exact ⟨by push_cast; rw [strd_int h1, show Qi M = 2 from if_pos (by omega)]; congr 1; push_cast; ac_rfl, rfl⟩
    ·exact Ent.nil _
  ·refine Wp.skip (Qb ?_)
   apply QS mixed [⟨32, _, []⟩, ⟨33, _, [0]⟩, ⟨34, _, []⟩, ⟨35, _, [2]⟩, ⟨36, _, [1, 3]⟩, ⟨37, _, []⟩, ⟨38, _, [5]⟩, ⟨39, _, [6]⟩, ⟨40, _, [4, 7]⟩, ⟨2, _, [8, 6, 0, 1, 2, 3, 4, 5, 7]⟩] rfl
   ·refine AllObs.mk ?_ ?_
    ·exact Qj (o2 := 1) rfl rfl rfl (Ql rfl)
    refine AllObs.mk ?_ ?_
    ·refine Qo rfl rfl (by rfl) ?_
     exact Ql rfl
    refine AllObs.mk ?_ ?_
    ·exact Qj (o2 := 2) rfl rfl rfl (Ql rfl)
    refine AllObs.mk ?_ ?_
    ·refine Qo rfl rfl (by rfl) ?_
     exact Ql rfl
    refine AllObs.mk ?_ ?_
    ·refine Xz rfl rfl rfl (Qt (by omega) (by omega)) ?_
     exact Ql rfl
    refine AllObs.mk ?_ ?_
    ·refine Qz (vs := [_, _, _, _]) rfl rfl rfl (by rfl) ?_
     exact Ql rfl
    refine AllObs.mk ?_ ?_
    ·refine Qg rfl rfl (by repeat' constructor) (Xo _ _ _ _ (by omega)) ?_
     rintro _ _ ⟨rfl, rfl⟩
     simp only [Qr]
     rw [show (if K % 3 = 0 then (3 : Int) else 1) = QZ K from rfl]
     exact WpL.nil ⟨rfl, rfl, rfl, by exact Ent.refl _⟩
    refine AllObs.mk ?_ ?_
    ·exact s_fv rfl rfl rfl (Ql rfl)
    refine AllObs.mk ?_ ?_
    ·refine Xz rfl rfl rfl (Qt (by omega) (by omega)) ?_
     exact Ql rfl
    refine AllObs.mk ?_ ?_
    ·exact Qe rfl rfl (Ql rfl)
    exact AllObs.nil
   ·refine Qh ?_
    apply RetQ.mk
    ·exact (Res.one rfl rfl)
    ·exact ⟨by push_cast; rw [strd_int h1, show Qi M = 1 from if_neg (by omega)]; congr 1; push_cast; rw [Int.mul_one]; ac_rfl, rfl⟩
    ·exact Ent.nil _

theorem OddR_spec (g : Nat) (p ch mx : Int) (h0 : 0 ≤ p) (h1 : p < 18446744073709551616) : Fn Tryz.prog 143 #[.int .u64 p, .pointer (some ⟨g, 0, none⟩)] [QB g [.int .i64 ch, .int .i64 mx] 48] (fun v l => v = .bool (!decide (X1 p ch mx)) ∧ l = [QB g [.int .i64 ch, .int .i64 mx] 48]) := by
 refine Qk (vs := [.int .u64 p, .pointer (some ⟨g, 0, none⟩)]) Tryz.func143 rfl Tryz.ntmps143 rfl ?_
 refine Qb (Qa (Qe rfl rfl (WpL.nil (Qb (Qa (Qd rfl rfl ?_))))))
 refine Qz (vs := [_, _]) rfl rfl rfl (by rfl) ?_
 refine Qg rfl rfl (by repeat' constructor) (Fits_spec _ _ _ h0 h1) ?_
 rintro _ _ ⟨rfl, rfl⟩
 simp only [Qr]
 refine YM rfl rfl (Qe rfl rfl (WpL.nil (Qh ?_)))
 apply RetQ.mk
 ·exact (Res.one rfl rfl)
 ·exact ⟨rfl, rfl⟩
 ·exact Ent.refl _

theorem IndexOddR_spec (A0 : HP) (a0 : Option Addr) (c0 : Nat) (px : List Int) (hA : RdsL [A0] a0 (Q5 px)) (hr : ∀ p ∈ px, 0 ≤ p ∧ p < 18446744073709551616) (hl : px.length ≤ 140737488355328) (g : Nat) (ch mx : Int) : Fn Tryz.prog 173 #[.slice a0 px.length c0, .func (.func 143) #[] #[.pointer (some ⟨g, 0, none⟩)]] [QB g [.int .i64 ch, .int .i64 mx] 48, A0] (fun v l => ∃ r : Int, v = .int .i64 r ∧ (0 ≤ r ↔ ¬ ∀ p ∈ px, X1 p ch mx) ∧ l = [QB g [.int .i64 ch, .int .i64 mx] 48, A0]) := by
 refine Qk (vs := [.slice a0 px.length c0, .func (.func 143) #[] #[.pointer (some ⟨g, 0, none⟩)]]) Tryz.func173 rfl Tryz.ntmps173 rfl ?_
 refine Qb (Qa (Qe rfl rfl (WpL.nil (Qb (Qb (Qa (Qd rfl rfl (QK rfl rfl (Qd rfl rfl (WpL.nil (Wp.block ?_)))))))))))
 refine Wp.loopD (σ := Nat) (fun k => k ≤ px.length ∧ ∀ p ∈ px.take k, X1 p ch mx) [4, 5, 8, 9, 10, 11, 12, 13, 14, 15, 16, 17, 18] (fun k => [(8, .int .i64 (k : Int))]) (fun k => [QB g [.int .i64 ch, .int .i64 mx] 48, A0]) (fun k => px.length - k) 0 ?_ (by repeat (first | exact FrLe.nil | refine FrLe.cons rfl ?_)) ?_ ?_
 ·exact ⟨Nat.zero_le _, by simp⟩
 ·exact Ent.refl _
 ·rintro k ⟨hk, hf⟩
  refine Qb (Qa (Q6 rfl rfl rfl (WpL.nil (Qb (Qm rfl (fun h1 => ?_) (fun h1 => ?_))))))
  ·have hlt : k < px.length := by omega
   have hpb := hr _ (List.getElem_mem hlt)
   refine Wp.skip (Qb (Wp.block ?_))
   refine Qb (Qa (Qd rfl rfl (Qe rfl rfl (WpL.nil (Qb (Qa (Qd rfl rfl (Qd rfl rfl (Qd rfl rfl (Q3 k rfl rfl rfl hA (by exact Take.ent' (by repeat' constructor)) rfl (by omega) (by rw [Xt]; omega) ?_))))))))))
   refine Xb rfl rfl hA (by exact Take.ent' (by repeat' constructor)) (Yg px hlt) ?_
   refine XU (u := []) (c := [.pointer (some ⟨g, 0, none⟩)]) rfl rfl rfl rfl (by repeat' constructor) (OddR_spec g _ ch mx hpb.1 hpb.2) ?_
   rintro _ _ ⟨rfl, rfl⟩
   simp only [Qr]
   refine WpL.nil (XC rfl (fun h2 => ?_) (fun h2 => ?_))
   ·refine Qb (Qa (Qd rfl rfl (Qe rfl rfl (WpL.nil (Qh ?_)))))
    apply RetQ.mk
    ·exact (Res.one rfl rfl)
    ·exact ⟨_, rfl, ⟨fun _ hall => (by have := hall _ (List.getElem_mem hlt); rw [decide_eq_true this] at h2; cases h2), fun _ => (by omega)⟩, rfl⟩
    ·exact Ent.refl _
   ·refine Wp.skip (Qa (QE rfl rfl rfl (Qt (by omega) (by omega)) ?_))
    refine Qd rfl rfl (WpL.nil (Qy (k + 1) ?_ ?_ (by ((repeat (first | exact Top.refl | refine Top.push rfl ?_)); done)) (by repeat (first | exact FrLe.nil | refine FrLe.cons rfl ?_)) ?_))
    ·refine ⟨by omega, fun p hp => ?_⟩
     rw [Xd px hlt] at hp
     rcases List.mem_append.1 hp with hp | hp
     ·exact hf p hp
     ·have := List.mem_singleton.1 hp; subst this; simpa using h2
    ·omega
    ·exact Ent.refl _
  ·refine QL (Qb (Qa (Qe rfl rfl (WpL.nil (Qh ?_)))))
   apply RetQ.mk
   ·exact (Res.one rfl rfl)
   ·have hke : k = px.length := by omega
    rw [hke, List.take_length] at hf
    exact ⟨_, rfl, ⟨fun h => by omega, fun h => absurd hf h⟩, rfl⟩
   ·exact Ent.refl _

theorem Yo (A0 : HP) (a0 : Option Addr) (c0 : Nat) (px : List Int) (hA : RdsL [A0] a0 (Q5 px)) (hr : ∀ p ∈ px, 0 ≤ p ∧ p < 18446744073709551616) (hl : px.length ≤ 140737488355328) (g : Nat) (ch mx : Int) : Fn Tryz.prog 130 #[.slice a0 px.length c0, .func (.func 143) #[] #[.pointer (some ⟨g, 0, none⟩)]] [QB g [.int .i64 ch, .int .i64 mx] 48, A0] (fun v l => v = .bool (decide (¬ ∀ p ∈ px, X1 p ch mx)) ∧ l = [QB g [.int .i64 ch, .int .i64 mx] 48, A0]) := by
 refine Qk (vs := [.slice a0 px.length c0, .func (.func 143) #[] #[.pointer (some ⟨g, 0, none⟩)]]) Tryz.func130 rfl Tryz.ntmps130 rfl ?_
 refine Qb (Qa (Qe rfl rfl (WpL.nil (Qb (Qa (Qd rfl rfl (Qd rfl rfl (Qg rfl rfl (by repeat' constructor) (IndexOddR_spec A0 a0 c0 px hA hr hl _ _ _) ?_))))))))
 rintro _ _ ⟨ri, rfl, hri, rfl⟩
 simp only [Qr]
 refine Zo rfl rfl rfl (Qe rfl rfl (WpL.nil (Qh ?_)))
 apply RetQ.mk
 ·exact (Res.one rfl rfl)
 ·exact ⟨congrArg Value.bool (by rw [decide_eq_decide]; exact hri), rfl⟩
 ·exact Ent.refl _

end Go.Proofs.YtggamdlpiejbiaaGreat
