/- Walks and plain laws, a part of the proof of PnmJoins: every input that the law's guards let in, no condition beside. -/
import Derived.Test.YtggamdlpiejbiaaGreatM16
namespace Go.Proofs.YtggamdlpiejbiaaGreat
open Go.RowKit Go.Shelf


theorem RawPut_spec (K : Int) (W : Nat) (H M : Int) (hR : RawH K (W : Int) H M) (g : Nat) (a1 : Option Addr) (c1 : Nat) (bs : List Int) (hbs : ∀ x ∈ bs, 0 ≤ x ∧ x ≤ 255) (hbl : bs.length ≤ 100000) (n : Nat) (rows last e : Int) (hst : bs.length = QF K W (Qg M)) (hbc : bs.length ≤ c1) (hn : n < bs.length) (hro : 0 ≤ rows ∧ rows ≤ 100000) (c : Int) (hc0 : 0 ≤ c) (hc1 : c ≤ 255) : Fn Tryz.prog 125 #[.pointer (some ⟨g, 0, none⟩), .int .u8 c] [QA g [.int .i64 K, .int .i64 (W : Int), .int .i64 H, .int .i64 M, .slice a1 bs.length c1, .int .i64 (n : Int), .int .i64 rows, .int .i64 last, .int .i64 e] 198, QG 5 1 a1 c1 bs.length (Xr bs)] (fun v l => ∃ b' n' rows' last' e' out a3 c3, ((⟨b', n', rows', last', e'⟩ : RW), out) = Xj K W H M ⟨bs, n, rows, last, e⟩ c ∧ v = .tuple #[.slice a3 out.length c3, .int .i64 last'] ∧ l = [QA g [.int .i64 K, .int .i64 (W : Int), .int .i64 H, .int .i64 M, .slice a1 b'.length c1, .int .i64 (n' : Int), .int .i64 rows', .int .i64 last', .int .i64 e'] 198, QG 5 1 a1 c1 b'.length (Xr b'), QG 92 1 a3 c3 out.length (Xp out)] ∧ (out = [] → a3 = none)) := by
  by_cases h4 : K = 4
  · exact RawPut_a K W H M hR g a1 c1 bs hbs hbl n rows last e hst hbc hn hro c hc0 hc1 h4
  · by_cases hm : ((n : Int) + 1) % ((Qg M : Nat) : Int) = 0
    · exact RawPut_c K W H M hR g a1 c1 bs hbs hbl n rows last e hst hbc hn hro c hc0 hc1 h4 hm
    · exact RawPut_b K W H M hR g a1 c1 bs hbs hbl n rows last e hst hbc hn hro c hc0 hc1 h4 hm
theorem putW_ok {K : Int} {W : Nat} {H M c : Int} {s s' : RW} {out : List Int} (hs : s.b.length = QF K W (Qg M)) (hb : ∀ x ∈ s.b, 0 ≤ x ∧ x ≤ 255) (hc0 : 0 ≤ c) (hc1 : c ≤ 255) (hn : s.n < s.b.length) (hl : s.last = 0) (hr : 0 ≤ s.rows ∧ s.rows < H) (h : (s', out) = Xj K W H M s c) :
    s'.b.length = s.b.length ∧ (∀ x ∈ s'.b, 0 ≤ x ∧ x ≤ 255) ∧ out.length ≤ W ∧ (s'.last = 0 ∨ s'.last = 1 ∨ s'.last = 2) ∧ (s'.last = 0 → s'.n < s'.b.length ∧ 0 ≤ s'.rows ∧ s'.rows < H) := by
  have hw := Q2 M
  have hl2 : (s.b.set s.n c).length = s.b.length := List.length_set
  have hb2 := set_bd (n := s.n) hb hc0 hc1
  unfold Xj at h
  rw [if_neg (by omega)] at h
  split at h
  · injection h with h1 h2
    subst h1; subst h2
    exact ⟨hl2, hb2, by simp, .inr (.inr rfl), fun e => by cases e⟩
  · split at h
    · rename_i hlt
      injection h with h1 h2
      subst h1; subst h2
      exact ⟨hl2, hb2, by simp, .inl rfl, fun _ => ⟨by simp only [hl2]; exact hlt, hr.1, hr.2⟩⟩
    · injection h with h1 h2
      subst h1; subst h2
      refine ⟨hl2, hb2, by rw [Y6 hw (hl2.trans hs)]; exact Nat.le_refl _, ?_, ?_⟩
      · dsimp only; split
        · exact .inr (.inl rfl)
        · exact .inl rfl
      · dsimp only; split
        · intro e; cases e
        · intro _; exact ⟨by rw [hl2]; omega, by omega, by omega⟩
end Go.Proofs.YtggamdlpiejbiaaGreat
namespace Go.Proofs.YtggamdlpiejbiaaGreat
open Go.RowKit Go.Shelf


theorem Za (K : Int) (W w : Nat) (px : List Int) (n : Nat) : Xg K W w px (n + 1) = Xg K W w px n ++ Y5 K w (((px.drop (n * W)).take W).flatMap Qn) := by simp [Xg, ZI, List.range_succ]
theorem Vc {K M p : Int} (h : Yp p (QW K) M) : ((Qn p).length : Int) = QW K := h.2.1
theorem ZA {l : List Int} {j : Nat} (h : j < l.length) : ((l.take j).flatMap Qn) ++ Qn l[j] = (l.take (j + 1)).flatMap Qn := by
  rw [Xd l h, List.flatMap_append]; simp
theorem flat_le (l : List Int) : (l.flatMap Qn).length ≤ 3 * l.length := by
  induction l with
  | nil => simp
  | cons p l ih => have := XD p; rw [List.flatMap_cons, List.length_append, List.length_cons]; omega
theorem ZZ {w : Nat} {l : List Int} {j : Nat} (h : j < l.length) : ((l.take j).flatMap (Ym w)) ++ Ym w l[j] = (l.take (j + 1)).flatMap (Ym w) := by
  rw [Xd l h, List.flatMap_append]; simp
theorem enc_le (w : Nat) (l : List Int) : (l.flatMap (Ym w)).length ≤ 2 * l.length := by
  induction l with
  | nil => simp
  | cons p l ih =>
    have : (Ym w p).length ≤ 2 := by unfold Ym; split <;> simp
    rw [List.flatMap_cons, List.length_append, List.length_cons]; omega
theorem Yc {K : Int} {W w : Nat} (hw : w = 1 ∨ w = 2) {px : List Int} {Hn : Nat} (hpl : px.length = W * Hn) (hl : ∀ p ∈ px, (Qn p).length = (QW K).toNat) : ∀ n, n ≤ Hn → (Xg K W w px n).length = QF K W w * n
  | 0, _ => by simp [Xg, ZI]
  | n + 1, h => by
    rw [Za, List.length_append, Yc hw hpl hl n (by omega), Nat.mul_add, Nat.mul_one]
    congr 1
    have hrl : ((px.drop (n * W)).take W).length = W := by
      rw [List.length_take, List.length_drop, hpl]
      have : (n + 1) * W ≤ Hn * W := Nat.mul_le_mul_right _ h
      rw [Nat.add_mul, Nat.one_mul, Nat.mul_comm Hn] at this
      omega
    have hfl := Ze ((px.drop (n * W)).take W) fun p hp => hl p (List.mem_of_mem_drop (List.mem_of_mem_take hp))
    rw [hrl] at hfl
    unfold Y5 QF
    split
    · rename_i h4
      have e1 : (QW K).toNat = 1 := by rw [h4]; rfl
      rw [YS, hfl, e1, Nat.mul_one]
    · rw [Ve hw, hfl]
def zs (n : Nat) : List Int := List.replicate n 0
theorem row_put {A R : List Int} {n st N : Nat} (hA : A.length = st * n) (_hR : R.length = st) (hN : st * (n + 1) ≤ N) : ((A ++ zs (N - st * n)).take (st * n)) ++ R ++ ((A ++ zs (N - st * n)).drop (st * n + st)) = (A ++ R) ++ zs (N - st * (n + 1)) := by
  have e : st * (n + 1) = st * n + st := by rw [Nat.mul_add, Nat.mul_one]
  rw [← hA, List.take_left, ← List.drop_drop, List.drop_left]
  congr 1
  unfold zs
  rw [List.drop_replicate]
  congr 1
  omega
theorem ints_ne {l : List Int} (h : l ≠ []) : QY l ≠ [] := fun e => h (by cases l with | nil => rfl | cons x l => cases e)
structure WyX where
  (y : Nat)
structure WjX where
  (j : Nat) (a : Option Addr) (c m : Nat)

theorem Size_spec (K : Int) (W Hn : Nat) (M : Int) (hR : RawH K (W : Int) (Hn : Int) M) : Fn Tryz.prog 75 #[.agg #[.int .i64 K, .int .i64 (W : Int), .int .i64 (Hn : Int), .int .i64 M]] [] (fun v l => v = .int .i64 ((QF K W (Qg M) * Hn : Nat) : Int) ∧ l = []) := by
 have hb := hR.bd
 have hch := Y0 K
 have hw := Q2 M
 have hsb := XU (K := K) (W := W) hw (by omega) (by omega)
 have hWH : W * Hn ≤ 4096 * 65536 := Nat.mul_le_mul (by omega) (by omega)
 have hWHi : (W : Int) * (Hn : Int) = ((W * Hn : Nat) : Int) := by push_cast; rfl
 have hs1 : (2 : Int) * (W : Int) * (Hn : Int) = ((2 * (W * Hn) : Nat) : Int) := by rw [Int.mul_assoc, hWHi]; push_cast; rfl
 have hs2 : 0 ≤ (2 : Int) * (W : Int) * (Hn : Int) * QW K ∧ (2 : Int) * (W : Int) * (Hn : Int) * QW K ≤ 4000000000 := by rw [hs1]; rcases hch with e | e <;> rw [e] <;> omega
 have hs3 : 0 ≤ (W : Int) * (Hn : Int) * QW K ∧ (W : Int) * (Hn : Int) * QW K ≤ 2000000000 := by rw [hWHi]; rcases hch with e | e <;> rw [e] <;> omega
 have hs4 : 0 ≤ (Hn : Int) * (((W : Int) + 7) / 8) ∧ (Hn : Int) * (((W : Int) + 7) / 8) ≤ 65536 * 4096 := ⟨Int.mul_nonneg (by omega) (by omega), Int.mul_le_mul (by omega) (by omega) (by omega) (by omega)⟩
 refine Qk (vs := [.agg #[.int .i64 K, .int .i64 (W : Int), .int .i64 (Hn : Int), .int .i64 M]]) Tryz.func75 rfl Tryz.ntmps75 rfl (Qb (Qa (Q9 rfl rfl rfl ?_)))
 intro g1
 refine Qe rfl rfl (WpL.nil (Qb (Wp.block ?_)))
 refine Qb (Qa ?_)
 refine QI (vs := [_, _, _, _]) rfl rfl rfl (by rfl) ?_
 refine Qh rfl rfl (by repeat' constructor) (ZW _ _ _ _) ?_
 rintro _ _ ⟨rfl, rfl⟩
 simp only [Qr]
 refine XN rfl rfl (Qe rfl rfl (WpL.nil (Qz rfl (fun hn => hn (by omega)) ?_)))
 refine Qb (Qa (Qj (o2 := 0) rfl rfl rfl (Qo rfl rfl (by rfl) ?_)))
 refine QN rfl rfl rfl (Qe rfl rfl (WpL.nil (Ql rfl (fun h1 => ?_) (fun h1 => ?_))))
 ·refine Qb (Qa (Qj (o2 := 2) rfl rfl rfl (Qo rfl rfl (by rfl) ?_)))
  refine Qj (o2 := 1) rfl rfl rfl (Qo rfl rfl (by rfl) ?_)
  refine QD rfl rfl rfl (Qu (by omega) (by omega)) ?_
  refine ZG rfl rfl rfl (by omega) (by omega) (Qu (by omega) (by omega)) ?_
  refine XK rfl rfl rfl (Qu (by omega) (by omega)) ?_
  refine Qe rfl rfl (WpL.nil (Qi ?_))
  apply RetQ.mk
  ·exact (Res.one rfl rfl)
  ·exact ⟨by rw [show QF K W (Qg M) = (W + 7) / 8 from if_pos h1, Int.mul_comm]; rfl, rfl⟩
  ·exact Ent.nil _
 ·refine Qb (Qa (Qj (o2 := 3) rfl rfl rfl (Qo rfl rfl (by rfl) ?_)))
  refine Zm rfl rfl rfl (Qe rfl rfl (WpL.nil (Ql rfl (fun h2 => ?_) (fun h2 => ?_))))
  ·refine Qb ?_
   apply Q0 mixed [⟨22, _, []⟩, ⟨23, _, [0]⟩, ⟨24, _, [1]⟩, ⟨25, _, []⟩, ⟨26, _, [3]⟩, ⟨27, _, [2, 4]⟩, ⟨28, _, []⟩, ⟨29, _, [6]⟩, ⟨30, _, [7]⟩, ⟨31, _, [5, 8]⟩, ⟨2, _, [9, 7, 0, 1, 2, 3, 4, 5, 6, 8]⟩] rfl
   ·refine AllObs.mk ?_ ?_
    ·exact Qj (o2 := 1) rfl rfl rfl (Qm rfl)
    refine AllObs.mk ?_ ?_
    ·refine Qo rfl rfl (by rfl) ?_
     exact Qm rfl
    refine AllObs.mk ?_ ?_
    ·refine XK rfl rfl rfl (Qu (by omega) (by omega)) ?_
     exact Qm rfl
    refine AllObs.mk ?_ ?_
    ·exact Qj (o2 := 2) rfl rfl rfl (Qm rfl)
    refine AllObs.mk ?_ ?_
    ·refine Qo rfl rfl (by rfl) ?_
     exact Qm rfl
    refine AllObs.mk ?_ ?_
    ·refine XK rfl rfl rfl (Qu (by omega) (by omega)) ?_
     exact Qm rfl
    refine AllObs.mk ?_ ?_
    ·refine QI (vs := [_, _, _, _]) rfl rfl rfl (by rfl) ?_
     exact Qm rfl
    refine AllObs.mk ?_ ?_
    ·refine Qh rfl rfl (by repeat' constructor) (XJ _ _ _ _ (by omega)) ?_
     rintro _ _ ⟨rfl, rfl⟩
     simp only [Qr]
     rw [show (if K % 3 = 0 then (3 : Int) else 1) = QW K from rfl]
     exact WpL.nil ⟨rfl, rfl, rfl, by exact Ent.refl _⟩
    refine AllObs.mk ?_ ?_
    ·exact s_fv rfl rfl rfl (Qm rfl)
    refine AllObs.mk ?_ ?_
    ·refine XK rfl rfl rfl (Qu (by omega) (by omega)) ?_
     exact Qm rfl
    refine AllObs.mk ?_ ?_
    ·exact Qe rfl rfl (Qm rfl)
    exact AllObs.nil
   ·refine Qi ?_
    apply RetQ.mk
    ·exact (Res.one rfl rfl)
    ·exact ⟨by push_cast; rw [strd_int h1, show Qg M = 2 from if_pos (by omega)]; congr 1; push_cast; ac_rfl, rfl⟩
    ·exact Ent.nil _
  ·refine Wp.skip (Qb ?_)
   apply Q0 mixed [⟨32, _, []⟩, ⟨33, _, [0]⟩, ⟨34, _, []⟩, ⟨35, _, [2]⟩, ⟨36, _, [1, 3]⟩, ⟨37, _, []⟩, ⟨38, _, [5]⟩, ⟨39, _, [6]⟩, ⟨40, _, [4, 7]⟩, ⟨2, _, [8, 6, 0, 1, 2, 3, 4, 5, 7]⟩] rfl
   ·refine AllObs.mk ?_ ?_
    ·exact Qj (o2 := 1) rfl rfl rfl (Qm rfl)
    refine AllObs.mk ?_ ?_
    ·refine Qo rfl rfl (by rfl) ?_
     exact Qm rfl
    refine AllObs.mk ?_ ?_
    ·exact Qj (o2 := 2) rfl rfl rfl (Qm rfl)
    refine AllObs.mk ?_ ?_
    ·refine Qo rfl rfl (by rfl) ?_
     exact Qm rfl
    refine AllObs.mk ?_ ?_
    ·refine XK rfl rfl rfl (Qu (by omega) (by omega)) ?_
     exact Qm rfl
    refine AllObs.mk ?_ ?_
    ·refine QI (vs := [_, _, _, _]) rfl rfl rfl (by rfl) ?_
     exact Qm rfl
    refine AllObs.mk ?_ ?_
    ·refine Qh rfl rfl (by repeat' constructor) (XJ _ _ _ _ (by omega)) ?_
     rintro _ _ ⟨rfl, rfl⟩
     simp only [Qr]
     rw [show (if K % 3 = 0 then (3 : Int) else 1) = QW K from rfl]
     exact WpL.nil ⟨rfl, rfl, rfl, by exact Ent.refl _⟩
    refine AllObs.mk ?_ ?_
    ·exact s_fv rfl rfl rfl (Qm rfl)
    refine AllObs.mk ?_ ?_
    ·refine XK rfl rfl rfl (Qu (by omega) (by omega)) ?_
     exact Qm rfl
    refine AllObs.mk ?_ ?_
    ·exact Qe rfl rfl (Qm rfl)
    exact AllObs.nil
   ·refine Qi ?_
    apply RetQ.mk
    ·exact (Res.one rfl rfl)
    ·exact ⟨by push_cast; rw [strd_int h1, show Qg M = 1 from if_neg (by omega)]; congr 1; push_cast; rw [Int.mul_one]; ac_rfl, rfl⟩
    ·exact Ent.nil _

theorem OddR_spec (g : Nat) (p ch mx : Int) (h0 : 0 ≤ p) (h1 : p < 18446744073709551616) : Fn Tryz.prog 143 #[.int .u64 p, .pointer (some ⟨g, 0, none⟩)] [QA g [.int .i64 ch, .int .i64 mx] 48] (fun v l => v = .bool (!decide (Yp p ch mx)) ∧ l = [QA g [.int .i64 ch, .int .i64 mx] 48]) := by
 refine Qk (vs := [.int .u64 p, .pointer (some ⟨g, 0, none⟩)]) Tryz.func143 rfl Tryz.ntmps143 rfl ?_
 refine Qb (Qa (Qe rfl rfl (WpL.nil (Qb (Qa (Qc rfl rfl ?_))))))
 refine QI (vs := [_, _]) rfl rfl rfl (by rfl) ?_
 refine Qh rfl rfl (by repeat' constructor) (Fits_spec _ _ _ h0 h1) ?_
 rintro _ _ ⟨rfl, rfl⟩
 simp only [Qr]
 refine Zq rfl rfl (Qe rfl rfl (WpL.nil (Qi ?_)))
 apply RetQ.mk
 ·exact (Res.one rfl rfl)
 ·exact ⟨rfl, rfl⟩
 ·exact Ent.refl _

theorem IndexOddR_spec (A0 : HP) (a0 : Option Addr) (c0 : Nat) (px : List Int) (hA : RdsL [A0] a0 (Xp px)) (hr : ∀ p ∈ px, 0 ≤ p ∧ p < 18446744073709551616) (hl : px.length ≤ 140737488355328) (g : Nat) (ch mx : Int) : Fn Tryz.prog 173 #[.slice a0 px.length c0, .func (.func 143) #[] #[.pointer (some ⟨g, 0, none⟩)]] [QA g [.int .i64 ch, .int .i64 mx] 48, A0] (fun v l => ∃ r : Int, v = .int .i64 r ∧ (0 ≤ r ↔ ¬ ∀ p ∈ px, Yp p ch mx) ∧ l = [QA g [.int .i64 ch, .int .i64 mx] 48, A0]) := by
 refine Qk (vs := [.slice a0 px.length c0, .func (.func 143) #[] #[.pointer (some ⟨g, 0, none⟩)]]) Tryz.func173 rfl Tryz.ntmps173 rfl ?_
 refine Qb (Qa (Qe rfl rfl (WpL.nil (Qb (Qb (Qa (Qc rfl rfl (QC rfl rfl (Qc rfl rfl (WpL.nil (Wp.block ?_)))))))))))
 refine Wp.loopD (σ := Nat) (fun k => k ≤ px.length ∧ ∀ p ∈ px.take k, Yp p ch mx) [4, 5, 8, 9, 10, 11, 12, 13, 14, 15, 16, 17, 18] (fun k => [(8, .int .i64 (k : Int))]) (fun k => [QA g [.int .i64 ch, .int .i64 mx] 48, A0]) (fun k => px.length - k) 0 ?_ (by repeat (first | exact FrLe.nil | refine FrLe.cons rfl ?_)) ?_ ?_
 ·exact ⟨Nat.zero_le _, by simp⟩
 ·exact Ent.refl _
 ·rintro k ⟨hk, hf⟩
  refine Qb (Qa (Q7 rfl rfl rfl (WpL.nil (Qb (Ql rfl (fun h1 => ?_) (fun h1 => ?_))))))
  ·have hlt : k < px.length := by omega
   have hpb := hr _ (List.getElem_mem hlt)
   refine Wp.skip (Qb (Wp.block ?_))
   refine Qb (Qa (Qc rfl rfl (Qe rfl rfl (WpL.nil (Qb (Qa (Qc rfl rfl (Qc rfl rfl (Qc rfl rfl (Q4 k rfl rfl rfl hA (by exact Take.ent' (by repeat' constructor)) rfl (by omega) (by rw [X1]; omega) ?_))))))))))
   refine Q5 rfl rfl hA (by exact Take.ent' (by repeat' constructor)) (YP px hlt) ?_
   refine X3 (u := []) (c := [.pointer (some ⟨g, 0, none⟩)]) rfl rfl rfl rfl (by repeat' constructor) (OddR_spec g _ ch mx hpb.1 hpb.2) ?_
   rintro _ _ ⟨rfl, rfl⟩
   simp only [Qr]
   refine WpL.nil (X5 rfl (fun h2 => ?_) (fun h2 => ?_))
   ·refine Qb (Qa (Qc rfl rfl (Qe rfl rfl (WpL.nil (Qi ?_)))))
    apply RetQ.mk
    ·exact (Res.one rfl rfl)
    ·exact ⟨_, rfl, ⟨fun _ hall => (by have := hall _ (List.getElem_mem hlt); rw [decide_eq_true this] at h2; cases h2), fun _ => (by omega)⟩, rfl⟩
    ·exact Ent.refl _
   ·refine Wp.skip (Qa (QD rfl rfl rfl (Qu (by omega) (by omega)) ?_))
    refine Qc rfl rfl (WpL.nil (Qv (k + 1) ?_ ?_ (by ((repeat (first | exact Top.refl | refine Top.push rfl ?_)); done)) (by repeat (first | exact FrLe.nil | refine FrLe.cons rfl ?_)) ?_))
    ·refine ⟨by omega, fun p hp => ?_⟩
     rw [Xd px hlt] at hp
     rcases List.mem_append.1 hp with hp | hp
     ·exact hf p hp
     ·have := List.mem_singleton.1 hp; subst this; simpa using h2
    ·omega
    ·exact Ent.refl _
  ·refine QM (Qb (Qa (Qe rfl rfl (WpL.nil (Qi ?_)))))
   apply RetQ.mk
   ·exact (Res.one rfl rfl)
   ·have hke : k = px.length := by omega
    rw [hke, List.take_length] at hf
    exact ⟨_, rfl, ⟨fun h => by omega, fun h => absurd hf h⟩, rfl⟩
   ·exact Ent.refl _

theorem YZ (A0 : HP) (a0 : Option Addr) (c0 : Nat) (px : List Int) (hA : RdsL [A0] a0 (Xp px)) (hr : ∀ p ∈ px, 0 ≤ p ∧ p < 18446744073709551616) (hl : px.length ≤ 140737488355328) (g : Nat) (ch mx : Int) : Fn Tryz.prog 130 #[.slice a0 px.length c0, .func (.func 143) #[] #[.pointer (some ⟨g, 0, none⟩)]] [QA g [.int .i64 ch, .int .i64 mx] 48, A0] (fun v l => v = .bool (decide (¬ ∀ p ∈ px, Yp p ch mx)) ∧ l = [QA g [.int .i64 ch, .int .i64 mx] 48, A0]) := by
 refine Qk (vs := [.slice a0 px.length c0, .func (.func 143) #[] #[.pointer (some ⟨g, 0, none⟩)]]) Tryz.func130 rfl Tryz.ntmps130 rfl ?_
 refine Qb (Qa (Qe rfl rfl (WpL.nil (Qb (Qa (Qc rfl rfl (Qc rfl rfl (Qh rfl rfl (by repeat' constructor) (IndexOddR_spec A0 a0 c0 px hA hr hl _ _ _) ?_))))))))
 rintro _ _ ⟨ri, rfl, hri, rfl⟩
 simp only [Qr]
 refine s_ge rfl rfl rfl (Qe rfl rfl (WpL.nil (Qi ?_)))
 apply RetQ.mk
 ·exact (Res.one rfl rfl)
 ·exact ⟨congrArg Value.bool (by rw [decide_eq_decide]; exact hri), rfl⟩
 ·exact Ent.refl _

end Go.Proofs.YtggamdlpiejbiaaGreat
namespace Go.Proofs.YtggamdlpiejbiaaGreat
open Go.RowKit Go.Shelf


theorem row_putU {A R : List Int} {n st N : Nat} (hA : A.length = st * n) (hR : R.length = st) (hN : st * (n + 1) ≤ N) : (Xr (A ++ zs (N - st * n))).take (st * n) ++ Xr R ++ (Xr (A ++ zs (N - st * n))).drop (st * n + st) = Xr ((A ++ R) ++ zs (N - st * (n + 1))) := by
  rw [← row_put hA hR hN]
  simp [Xr, List.map_take, List.map_drop]
theorem wrap_u8 (x : Int) : IntKind.u8.wrap x = x % 256 := by simp [IntKind.wrap, IntKind.bits, IntKind.signed]
theorem encS1 (x : Int) : Ym 1 x = [x] := rfl
theorem encS2 (x : Int) : Ym 2 x = [x / 256, x % 256] := rfl

set_option maxHeartbeats 2000000 in
theorem RawWrite_a (A0 : HP) (a0 : Option Addr) (c0 : Nat) (px : List Int) (hA : RdsL [A0] a0 (Xp px)) (hr : ∀ p ∈ px, 0 ≤ p ∧ p < 18446744073709551616) (hc : px.length ≤ c0) (K : Int) (W Hn : Nat) (M : Int) (hR : RawH K (W : Int) (Hn : Int) M) (hpl : px.length = W * Hn) (hfit : ∀ p ∈ px, Yp p (QW K) M) (hK : K = 4) : Fn Tryz.prog 91 #[.slice a0 px.length c0, .agg #[.int .i64 K, .int .i64 (W : Int), .int .i64 (Hn : Int), .int .i64 M]] [A0] (fun v l => ∃ a c, v = .tuple #[.slice a (Xg K W (Qg M) px Hn).length c, .int .i64 0] ∧ (Xg K W (Qg M) px Hn).length ≤ c ∧ l = [QG 5 1 a c (Xg K W (Qg M) px Hn).length (Xr (Xg K W (Qg M) px Hn)), A0]) := by
 have hb := hR.bd
 have hch := Y0 K
 have hw := Q2 M
 have hsb := XU (K := K) (W := W) hw (by omega) (by omega)
 have hWH : W * Hn ≤ 4096 * 65536 := Nat.mul_le_mul (by omega) (by omega)
 have hWHi : (W : Int) * (Hn : Int) = ((W * Hn : Nat) : Int) := by push_cast; rfl
 obtain ⟨st, hstd⟩ : ∃ st, st = QF K W (Qg M) := ⟨_, rfl⟩
 rw [← hstd] at hsb
 have hN : st * Hn ≤ 24576 * 65536 := Nat.mul_le_mul (by omega) (by omega)
 have hul : ∀ p ∈ px, (Qn p).length = (QW K).toNat := fun p hp => by have := Vc (hfit p hp); omega
 refine Qk (vs := [.slice a0 px.length c0, .agg #[.int .i64 K, .int .i64 (W : Int), .int .i64 (Hn : Int), .int .i64 M]]) Tryz.func91 rfl Tryz.ntmps91 rfl (Qb (Qa (Q9 rfl rfl rfl ?_)))
 intro g1
 refine Qe rfl rfl (Qe rfl rfl (WpL.nil (Qb (Qa ?_))))
 refine QI (vs := [_, _, _, _]) rfl rfl rfl (by rfl) ?_
 refine Qh rfl rfl (by repeat' constructor) (XJ _ _ _ _ (by omega)) ?_
 rintro _ _ ⟨rfl, rfl⟩
 simp only [Qr]
 rw [show (if K % 3 = 0 then (3 : Int) else 1) = QW K from rfl]
 refine YE rfl ?_
 intro gF
 refine XL rfl rfl rfl (by rfl) rfl ?_
 refine WpL.nil (Qb (Qa (s_mkf rfl (fun a hh => X6 hh _ _ rfl) ?_)))
 refine Qe rfl rfl (WpL.nil (Qb (Qb (Qa ?_))))
 refine QI (vs := [_, _, _, _]) rfl rfl rfl (by rfl) ?_
 refine Qh rfl rfl (by repeat' constructor) (ZL _ _ _ _ hR) ?_
 rintro _ _ ⟨gR, gB, b0, hb0, hb0z, rfl, rfl⟩
 simp only [Qr]
 refine Qc rfl rfl (QH rfl rfl rfl (QH rfl rfl rfl (Qe rfl rfl (Qe rfl rfl (WpL.nil (Qb (Qa (Qc rfl rfl (Xn rfl rfl rfl (Qc rfl rfl (Qy (dj := 28) rfl (by decide) ?_)))))))))))
 refine Qf rfl rfl (Qc rfl rfl (Qf rfl rfl (QC rfl rfl (Qf rfl rfl (Qj (o2 := 1) rfl rfl rfl (Qf rfl rfl (Qo rfl rfl (by rfl) ?_)))))))
 refine Qf rfl rfl (Qj (o2 := 2) rfl rfl rfl (Qf rfl rfl (Qo rfl rfl (by rfl) ?_)))
 refine Qf rfl rfl (XK rfl rfl rfl (Qu (by omega) (by omega)) ?_)
 rw [hWHi]
 refine Qf rfl rfl (Xn rfl rfl rfl (Qs rfl rfl rfl (Qc rfl rfl (Qy (dj := 38) rfl (decide_eq_false (fun h => h (by omega))) ?_))))
 refine Qf rfl rfl (Qc rfl rfl (Qf rfl rfl (Qc rfl rfl (Qf rfl rfl (Qh rfl rfl (by repeat' constructor) (YZ A0 a0 c0 px hA hr (by omega) gF (QW K) M) ?_)))))
 rintro _ _ ⟨rfl, rfl⟩
 simp only [Qr]
 refine Qs rfl rfl rfl (WpL.nil (Qz rfl (fun h => h hfit) ?_))
 refine Wp.skip (Qb (Qa ?_))
 refine QI (vs := [_, _, _, _]) rfl rfl rfl (by rfl) ?_
 refine Qh rfl rfl (by repeat' constructor) (Size_spec _ _ _ _ hR) ?_
 rintro _ _ ⟨rfl, rfl⟩
 simp only [Qr]
 rw [← hstd]
 refine s_mko (st * Hn) rfl rfl rfl (by omega) (by omega) rfl ?_
 intro gO
 rw [u8s_zero, show List.replicate (st * Hn) (0 : Int) = Xg K W (Qg M) px 0 ++ zs (st * Hn - st * 0) from rfl]
 refine Qe rfl rfl (WpL.nil (Qb (Qb (Qa (Qj (o2 := 2) rfl rfl rfl (Qo rfl rfl (by rfl) ?_))))))
 refine Qc rfl rfl (WpL.nil (Wp.block ?_))
 refine Wp.loopD (σ := WyX) (fun x => x.y ≤ Hn) [11, 12, 13, 15, 17, 48, 49, 50, 51, 52, 53, 54, 55, 56, 57, 58, 59, 60, 61, 62, 63, 64, 65, 66, 67, 68, 69, 70, 71, 72, 73, 74, 75, 76, 77, 78, 79, 80, 81, 82, 83, 84, 85, 86, 87, 88, 89, 90, 91, 92, 93, 94, 95, 96, 97, 98, 99, 100, 101, 102, 103, 104, 105, 106, 107, 108, 109, 110, 111, 112, 113, 114, 115, 116] (fun x => [(48, .int .i64 (x.y : Int))]) (fun x => [QG 5 1 (some ⟨gO, 0, none⟩) (st * Hn) (st * Hn) (Xr (Xg K W (Qg M) px x.y ++ zs (st * Hn - st * x.y))), QA g1 [.int .i64 K, .int .i64 (W : Int), .int .i64 (Hn : Int), .int .i64 M] 98, A0]) (fun x => Hn - x.y) ⟨0⟩ ?_ (by repeat (first | exact FrLe.nil | refine FrLe.cons rfl ?_)) ?_ ?_
 ·exact Nat.zero_le _
 ·exact Take.ent' (by repeat' constructor)
 ·rintro ⟨y⟩ hy
  dsimp only at hy ⊢
  refine Qb (Qa (Q7 rfl rfl rfl (WpL.nil (Qb (Ql rfl (fun h2 => ?_) (fun h2 => ?_))))))
  ·have hlt : y < Hn := by omega
   have hkW : (y + 1) * W = y * W + W := by rw [Nat.add_mul, Nat.one_mul]
   have hkW2 : (y + 1) * W ≤ Hn * W := Nat.mul_le_mul_right _ hlt
   rw [Nat.mul_comm Hn W] at hkW2
   have ei1 : (y : Int) * (W : Int) = ((y * W : Nat) : Int) := by push_cast; rfl
   have ei2 : ((y : Int) + 1) * (W : Int) = (((y + 1) * W : Nat) : Int) := by push_cast; rfl
   have hyN : st * (y + 1) ≤ st * Hn := Nat.mul_le_mul_left _ hlt
   have hyS : st * (y + 1) = st * y + st := by rw [Nat.mul_add, Nat.mul_one]
   have hyst : (y : Int) * (st : Int) = ((st * y : Nat) : Int) := by push_cast; rw [Int.mul_comm]
   refine Wp.skip (Qb (Wp.block ?_))
   refine Qb (Qa (Qc rfl rfl (Qe rfl rfl (WpL.nil (Qb (Qa (Qe rfl rfl (WpL.nil (Qb (Qa (Qe rfl rfl (WpL.nil ?_))))))))))))
   refine Qb (Qb (Qa (Qc rfl rfl (Qc rfl rfl (Qj (o2 := 1) rfl rfl rfl (Qo rfl rfl (by rfl) ?_))))))
   refine XK rfl rfl rfl (Qu (by omega) (by omega)) ?_
   rw [ei1]
   refine Qc rfl rfl (QD rfl rfl rfl (Qu (by omega) (by omega)) ?_)
   refine Qj (o2 := 1) rfl rfl rfl (Qo rfl rfl (by rfl) ?_)
   refine XK rfl rfl rfl (Qu (by omega) (by omega)) ?_
   rw [ei2]
   refine s_sll_lh (L := y * W) (H := (y + 1) * W) rfl rfl rfl rfl rfl rfl (by omega) (by omega) ?_
   refine QC rfl rfl (Qc rfl rfl (WpL.nil (Wp.block ?_)))
   have hRw := hA.sla (y * W) ((y + 1) * W) c0 1 (by omega)
   rw [pxs_sub] at hRw
   rw [show (y + 1) * W - y * W = W by omega] at hRw ⊢
   obtain ⟨row, hrow⟩ : ∃ row, row = (px.drop (y * W)).take W := ⟨_, rfl⟩
   have hrl : row.length = W := by rw [hrow, List.length_take, List.length_drop]; omega
   have hrp : ∀ p ∈ row, p ∈ px := fun p hp => by rw [hrow] at hp; exact List.mem_of_mem_drop (List.mem_of_mem_take hp)
   rw [← hrow] at hRw
   refine Wp.loopD (σ := WjX) (fun z => z.j ≤ W ∧ z.m = ((row.take z.j).flatMap Qn).length) [13, 15, 63, 64, 65, 66, 67, 68, 69, 70, 71] (fun z => [(63, .int .i64 (z.j : Int)), (13, .slice z.a z.m z.c)]) (fun z => [QG 3 1 z.a z.c z.m (QY ((row.take z.j).flatMap Qn)), QG 5 1 (some ⟨gO, 0, none⟩) (st * Hn) (st * Hn) (Xr (Xg K W (Qg M) px y ++ zs (st * Hn - st * y))), QA g1 [.int .i64 K, .int .i64 (W : Int), .int .i64 (Hn : Int), .int .i64 M] 98, A0]) (fun z => W - z.j) ⟨0, none, 0, 0⟩ ?_ (by repeat (first | exact FrLe.nil | refine FrLe.cons rfl ?_)) ?_ ?_
   ·exact ⟨Nat.zero_le _, rfl⟩
   ·exact Ent.own_nil (T := 3) (s := 1) (Ent.refl _)
   ·rintro ⟨j, aR, cR, m⟩ ⟨hj, hm⟩
    dsimp only at hj hm ⊢
    have hml := flat_le (row.take j)
    rw [← hm, List.length_take] at hml
    refine Qb (Qa (Q7 rfl rfl rfl (WpL.nil (Qb (Ql rfl (fun h4 => ?_) (fun h4 => ?_))))))
    ·have hlj : j < row.length := by omega
     have hpp := hrp _ (List.getElem_mem hlj)
     have hpb := hr _ hpp
     have hun := hul _ hpp
     have hul3 := XD (row[j]'hlj)
     refine Wp.skip (Qb (Wp.block ?_))
     refine Qb (Qa (Q4 j rfl rfl rfl hRw (by exact Take.ent' (by repeat' constructor)) rfl (by omega) (by rw [X1]; omega) ?_))
     refine Q5 rfl rfl hRw (by exact Take.ent' (by repeat' constructor)) (YP row hlj) ?_
     refine Qe rfl rfl (WpL.nil (Qa (Qc rfl rfl (Qc rfl rfl (Qh rfl rfl (by repeat' constructor) (Yf _ hpb.1 hpb.2) ?_)))))
     rintro _ _ ⟨A1, a1, c1, rfl, rfl, hA1, hn1⟩
     simp only [Qr]
     refine s_appr rfl rfl rfl (by repeat' constructor) hA1 (by exact Take.ent' (by repeat' constructor)) (ints_ne (fun e => by rw [e] at hun; simp at hun; omega)) (by rw [QT, Nat.mul_one]) (by rfl) (by rfl) (ints_one _) (by omega) (by omega) ?_
     intro a70 c70
     rw [ints_app, ZA hlj]
     refine Qe rfl rfl (WpL.nil (Qa (QD rfl rfl rfl (Qu (by omega) (by omega)) ?_)))
     refine Qc rfl rfl (WpL.nil (Qv (⟨j + 1, a70, c70, m + (Qn (row[j]'hlj)).length⟩ : WjX) ?_ ?_ (by ((repeat (first | exact Top.refl | refine Top.push rfl ?_)); done)) (by repeat (first | exact FrLe.nil | refine FrLe.cons rfl ?_)) ?_))
     ·exact ⟨by simp only; omega, by simp only; rw [← ZA hlj, List.length_append, ← hm]⟩
     ·simp only; omega
     ·exact Take.ent' (by repeat' constructor)
    ·have hje : j = row.length := by omega
     subst hje
     rw [List.take_length] at hm ⊢
     obtain ⟨rw_, hrw⟩ : ∃ q, q = row.flatMap Qn := ⟨_, rfl⟩
     rw [← hrw] at hm ⊢
     subst hm
     have hrwl : rw_.length = W * (QW K).toNat := by rw [hrw, Ze row (fun p hp => hul p (hrp p hp)), hrl]
     have hrwb : ∀ x ∈ rw_, 0 ≤ x ∧ x ≤ M := fun x hx => by
      rw [hrw] at hx
      obtain ⟨p, hp, hx⟩ := List.mem_flatMap.1 hx
      exact ⟨(Yx p x hx).1, (hfit p (hrp p hp)).2.2 x hx⟩
     have hrwl2 : 1 ≤ rw_.length ∧ rw_.length ≤ 12288 := by rw [hrwl]; rcases hch with e | e <;> rw [e] <;> simp <;> omega
     have hRBl : (Y5 K (Qg M) rw_).length = QF K W (Qg M) := by
      by_cases h9 : K = 4
      ·have e1 : (QW K).toNat = 1 := by rw [h9]; rfl
       rw [show Y5 K (Qg M) rw_ = Yn rw_ from if_pos h9, show QF K W (Qg M) = (W + 7) / 8 from if_pos h9, YS, hrwl, e1, Nat.mul_one]
      ·rw [show Y5 K (Qg M) rw_ = rw_.flatMap (Ym (Qg M)) from if_neg h9, show QF K W (Qg M) = W * (QW K).toNat * Qg M from if_neg h9, Ve hw, hrwl]
     have hch1 : (QW K).toNat = 1 := by rw [hK]; rfl
     rw [hch1, Nat.mul_one] at hrwl
     refine QM (Qb (Qb (Qa (Qj (o2 := 0) rfl rfl rfl (Qo rfl rfl (by rfl) ?_)))))
     refine QN rfl rfl rfl (WpL.nil (QU rfl hK (Qa (Qc rfl rfl (Qh rfl rfl (by repeat' constructor) (PackB_spec _ _ _ rw_ QE (fun x hx => by have := hrwb x hx; have := hb.2.2.2.2 hK; unfold Zt; omega) (by omega) (by omega)) ?_)))))
     rintro _ _ ⟨gP, rfl, rfl⟩
     simp only [Qr]
     refine Qc rfl rfl (QH rfl rfl rfl (QH rfl rfl rfl (Qe rfl rfl (WpL.nil (Qb (Qb (Qa (Qc rfl rfl (QC rfl rfl (Qc rfl rfl (WpL.nil (Wp.block ?_))))))))))))
     refine Wp.loopD (σ := Nat) (fun k => k ≤ rw_.length) [12, 17, 82, 83, 84, 85, 86, 87, 88, 89, 90, 91, 92, 93, 94, 95, 96, 97, 98, 99, 100, 101, 102, 103, 104, 105, 106, 107] (fun k => [(82, .int .i64 (k : Int)), (12, .slice (some ⟨gP, 0, none⟩) ((rw_.length + 7) / 8) ((rw_.length + 7) / 8))]) (fun k => [QG 5 1 (some ⟨gP, 0, none⟩) ((rw_.length + 7) / 8) ((rw_.length + 7) / 8) (Xr (Yn rw_)), QG 3 1 aR cR rw_.length (QY (rw_)), QG 5 1 (some ⟨gO, 0, none⟩) (st * Hn) (st * Hn) (Xr (Xg K W (Qg M) px y ++ zs (st * Hn - st * y))), QA g1 [.int .i64 K, .int .i64 (W : Int), .int .i64 (Hn : Int), .int .i64 M] 98, A0]) (fun k => rw_.length - k) 0 ?_ (by repeat (first | exact FrLe.nil | refine FrLe.cons rfl ?_)) ?_ ?_
     ·exact Nat.zero_le _
     ·exact Ent.refl _
     ·rintro k hk
      refine Qb (Qa (Q7 rfl rfl rfl (WpL.nil (Qb (Ql rfl (fun h7 => ?_) (fun h7 => ?_))))))
      ·have hlk : k < rw_.length := by omega
       have hxb := hrwb _ (List.getElem_mem hlk)
       refine Wp.skip (Qb (Wp.block ?_))
       refine Qb (Qa (Q4 k rfl rfl rfl QE (by exact Take.ent' (by repeat' constructor)) rfl (by omega) (by rw [QT]; omega) ?_))
       refine Q5 rfl rfl QE (by exact Take.ent' (by repeat' constructor)) (Xi rw_ hlk) ?_
       refine Qe rfl rfl (WpL.nil (Wp.block ?_))
       refine Qb (Qa (Qj (o2 := 0) rfl rfl rfl (Qo rfl rfl (by rfl) ?_)))
       refine QN rfl rfl rfl (Qe rfl rfl (WpL.nil (QU rfl hK (Wp.skip (Qa (QD rfl rfl rfl (Qu (by omega) (by omega)) ?_))))))
       refine Qc rfl rfl (WpL.nil (Qv (k + 1) ?_ ?_ (by ((repeat (first | exact Top.refl | refine Top.push rfl ?_)); done)) (by repeat (first | exact FrLe.nil | refine FrLe.cons rfl ?_)) ?_))
       ·omega
       ·omega
       ·exact Ent.refl _
      ·have hRB : Y5 K (Qg M) rw_ = Yn rw_ := if_pos hK
       rw [show (rw_.length + 7) / 8 = st by rw [hrwl, hstd, hK]; exact (if_pos rfl : QF 4 W (Qg M) = _).symm, ← hRB]
       refine QM (Qa (Qc rfl rfl (Qc rfl rfl ?_)))
       refine QI (vs := [_, _, _, _]) rfl rfl rfl (by rfl) ?_
       refine Qh rfl rfl (by repeat' constructor) (ZM _ _ _ _ hR) ?_
       rintro _ _ ⟨rfl, rfl⟩
       simp only [Qr]
       rw [← hstd]
       refine XK rfl rfl rfl (Qu (by omega) (by omega)) ?_
       rw [hyst]
       refine s_sll_l (L := st * y) rfl rfl rfl rfl (by omega) ?_
       refine Qc rfl rfl (s_copyo rfl rfl rfl (by repeat' constructor) (by omega) (by omega) (by omega) (YM _) ?_)
       rw [row_putU (by rw [hstd]; exact Yc hw hpl hul y hy) (hRBl.trans hstd.symm) hyN, show Y5 K (Qg M) rw_ = Y5 K (Qg M) (((px.drop (y * W)).take W).flatMap Qn) from by rw [hrw, hrow], ← Za]
       refine WpL.nil (Qa (QD rfl rfl rfl (Qu (by omega) (by omega)) ?_))
       refine Qc rfl rfl (WpL.nil (Qv (⟨y + 1⟩ : WyX) ?_ ?_ (by ((repeat (first | exact Top.refl | refine Top.push rfl ?_)); done)) (by repeat (first | exact FrLe.nil | refine FrLe.cons rfl ?_)) ?_))
       ·simp only; omega
       ·simp only; omega
       ·exact Take.ent' (by repeat' constructor)
  ·have hye : y = Hn := by omega
   have hwl := Yc (K := K) (w := Qg M) hw hpl hul Hn (Nat.le_refl _)
   rw [← hstd] at hwl
   rw [hye, show zs (st * Hn - st * Hn) = [] from by rw [Nat.sub_self]; rfl, List.append_nil, ← hwl]
   refine QM (Qb (Qa (Qc rfl rfl (Qe rfl rfl (Qe rfl rfl (WpL.nil (Qi ?_)))))))
   apply RetQ.mk
   ·exact (QB rfl rfl rfl)
   ·exact ⟨_, _, rfl, Nat.le_refl _, rfl⟩
   ·exact Take.ent' (by repeat' constructor)

set_option maxHeartbeats 2000000 in
theorem RawWrite_b (A0 : HP) (a0 : Option Addr) (c0 : Nat) (px : List Int) (hA : RdsL [A0] a0 (Xp px)) (hr : ∀ p ∈ px, 0 ≤ p ∧ p < 18446744073709551616) (hc : px.length ≤ c0) (K : Int) (W Hn : Nat) (M : Int) (hR : RawH K (W : Int) (Hn : Int) M) (hpl : px.length = W * Hn) (hfit : ∀ p ∈ px, Yp p (QW K) M) (hK : K ≠ 4) (hM : M ≤ 255) : Fn Tryz.prog 91 #[.slice a0 px.length c0, .agg #[.int .i64 K, .int .i64 (W : Int), .int .i64 (Hn : Int), .int .i64 M]] [A0] (fun v l => ∃ a c, v = .tuple #[.slice a (Xg K W (Qg M) px Hn).length c, .int .i64 0] ∧ (Xg K W (Qg M) px Hn).length ≤ c ∧ l = [QG 5 1 a c (Xg K W (Qg M) px Hn).length (Xr (Xg K W (Qg M) px Hn)), A0]) := by
 have hb := hR.bd
 have hch := Y0 K
 have hw := Q2 M
 have hsb := XU (K := K) (W := W) hw (by omega) (by omega)
 have hWH : W * Hn ≤ 4096 * 65536 := Nat.mul_le_mul (by omega) (by omega)
 have hWHi : (W : Int) * (Hn : Int) = ((W * Hn : Nat) : Int) := by push_cast; rfl
 obtain ⟨st, hstd⟩ : ∃ st, st = QF K W (Qg M) := ⟨_, rfl⟩
 rw [← hstd] at hsb
 have hN : st * Hn ≤ 24576 * 65536 := Nat.mul_le_mul (by omega) (by omega)
 have hul : ∀ p ∈ px, (Qn p).length = (QW K).toNat := fun p hp => by have := Vc (hfit p hp); omega
 refine Qk (vs := [.slice a0 px.length c0, .agg #[.int .i64 K, .int .i64 (W : Int), .int .i64 (Hn : Int), .int .i64 M]]) Tryz.func91 rfl Tryz.ntmps91 rfl (Qb (Qa (Q9 rfl rfl rfl ?_)))
 intro g1
 refine Qe rfl rfl (Qe rfl rfl (WpL.nil (Qb (Qa ?_))))
 refine QI (vs := [_, _, _, _]) rfl rfl rfl (by rfl) ?_
 refine Qh rfl rfl (by repeat' constructor) (XJ _ _ _ _ (by omega)) ?_
 rintro _ _ ⟨rfl, rfl⟩
 simp only [Qr]
 rw [show (if K % 3 = 0 then (3 : Int) else 1) = QW K from rfl]
 refine YE rfl ?_
 intro gF
 refine XL rfl rfl rfl (by rfl) rfl ?_
 refine WpL.nil (Qb (Qa (s_mkf rfl (fun a hh => X6 hh _ _ rfl) ?_)))
 refine Qe rfl rfl (WpL.nil (Qb (Qb (Qa ?_))))
 refine QI (vs := [_, _, _, _]) rfl rfl rfl (by rfl) ?_
 refine Qh rfl rfl (by repeat' constructor) (ZL _ _ _ _ hR) ?_
 rintro _ _ ⟨gR, gB, b0, hb0, hb0z, rfl, rfl⟩
 simp only [Qr]
 refine Qc rfl rfl (QH rfl rfl rfl (QH rfl rfl rfl (Qe rfl rfl (Qe rfl rfl (WpL.nil (Qb (Qa (Qc rfl rfl (Xn rfl rfl rfl (Qc rfl rfl (Qy (dj := 28) rfl (by decide) ?_)))))))))))
 refine Qf rfl rfl (Qc rfl rfl (Qf rfl rfl (QC rfl rfl (Qf rfl rfl (Qj (o2 := 1) rfl rfl rfl (Qf rfl rfl (Qo rfl rfl (by rfl) ?_)))))))
 refine Qf rfl rfl (Qj (o2 := 2) rfl rfl rfl (Qf rfl rfl (Qo rfl rfl (by rfl) ?_)))
 refine Qf rfl rfl (XK rfl rfl rfl (Qu (by omega) (by omega)) ?_)
 rw [hWHi]
 refine Qf rfl rfl (Xn rfl rfl rfl (Qs rfl rfl rfl (Qc rfl rfl (Qy (dj := 38) rfl (decide_eq_false (fun h => h (by omega))) ?_))))
 refine Qf rfl rfl (Qc rfl rfl (Qf rfl rfl (Qc rfl rfl (Qf rfl rfl (Qh rfl rfl (by repeat' constructor) (YZ A0 a0 c0 px hA hr (by omega) gF (QW K) M) ?_)))))
 rintro _ _ ⟨rfl, rfl⟩
 simp only [Qr]
 refine Qs rfl rfl rfl (WpL.nil (Qz rfl (fun h => h hfit) ?_))
 refine Wp.skip (Qb (Qa ?_))
 refine QI (vs := [_, _, _, _]) rfl rfl rfl (by rfl) ?_
 refine Qh rfl rfl (by repeat' constructor) (Size_spec _ _ _ _ hR) ?_
 rintro _ _ ⟨rfl, rfl⟩
 simp only [Qr]
 rw [← hstd]
 refine s_mko (st * Hn) rfl rfl rfl (by omega) (by omega) rfl ?_
 intro gO
 rw [u8s_zero, show List.replicate (st * Hn) (0 : Int) = Xg K W (Qg M) px 0 ++ zs (st * Hn - st * 0) from rfl]
 refine Qe rfl rfl (WpL.nil (Qb (Qb (Qa (Qj (o2 := 2) rfl rfl rfl (Qo rfl rfl (by rfl) ?_))))))
 refine Qc rfl rfl (WpL.nil (Wp.block ?_))
 refine Wp.loopD (σ := WyX) (fun x => x.y ≤ Hn) [11, 12, 13, 15, 17, 48, 49, 50, 51, 52, 53, 54, 55, 56, 57, 58, 59, 60, 61, 62, 63, 64, 65, 66, 67, 68, 69, 70, 71, 72, 73, 74, 75, 76, 77, 78, 79, 80, 81, 82, 83, 84, 85, 86, 87, 88, 89, 90, 91, 92, 93, 94, 95, 96, 97, 98, 99, 100, 101, 102, 103, 104, 105, 106, 107, 108, 109, 110, 111, 112, 113, 114, 115, 116] (fun x => [(48, .int .i64 (x.y : Int))]) (fun x => [QG 5 1 (some ⟨gO, 0, none⟩) (st * Hn) (st * Hn) (Xr (Xg K W (Qg M) px x.y ++ zs (st * Hn - st * x.y))), QA g1 [.int .i64 K, .int .i64 (W : Int), .int .i64 (Hn : Int), .int .i64 M] 98, A0]) (fun x => Hn - x.y) ⟨0⟩ ?_ (by repeat (first | exact FrLe.nil | refine FrLe.cons rfl ?_)) ?_ ?_
 ·exact Nat.zero_le _
 ·exact Take.ent' (by repeat' constructor)
 ·rintro ⟨y⟩ hy
  dsimp only at hy ⊢
  refine Qb (Qa (Q7 rfl rfl rfl (WpL.nil (Qb (Ql rfl (fun h2 => ?_) (fun h2 => ?_))))))
  ·have hlt : y < Hn := by omega
   have hkW : (y + 1) * W = y * W + W := by rw [Nat.add_mul, Nat.one_mul]
   have hkW2 : (y + 1) * W ≤ Hn * W := Nat.mul_le_mul_right _ hlt
   rw [Nat.mul_comm Hn W] at hkW2
   have ei1 : (y : Int) * (W : Int) = ((y * W : Nat) : Int) := by push_cast; rfl
   have ei2 : ((y : Int) + 1) * (W : Int) = (((y + 1) * W : Nat) : Int) := by push_cast; rfl
   have hyN : st * (y + 1) ≤ st * Hn := Nat.mul_le_mul_left _ hlt
   have hyS : st * (y + 1) = st * y + st := by rw [Nat.mul_add, Nat.mul_one]
   have hyst : (y : Int) * (st : Int) = ((st * y : Nat) : Int) := by push_cast; rw [Int.mul_comm]
   refine Wp.skip (Qb (Wp.block ?_))
   refine Qb (Qa (Qc rfl rfl (Qe rfl rfl (WpL.nil (Qb (Qa (Qe rfl rfl (WpL.nil (Qb (Qa (Qe rfl rfl (WpL.nil ?_))))))))))))
   refine Qb (Qb (Qa (Qc rfl rfl (Qc rfl rfl (Qj (o2 := 1) rfl rfl rfl (Qo rfl rfl (by rfl) ?_))))))
   refine XK rfl rfl rfl (Qu (by omega) (by omega)) ?_
   rw [ei1]
   refine Qc rfl rfl (QD rfl rfl rfl (Qu (by omega) (by omega)) ?_)
   refine Qj (o2 := 1) rfl rfl rfl (Qo rfl rfl (by rfl) ?_)
   refine XK rfl rfl rfl (Qu (by omega) (by omega)) ?_
   rw [ei2]
   refine s_sll_lh (L := y * W) (H := (y + 1) * W) rfl rfl rfl rfl rfl rfl (by omega) (by omega) ?_
   refine QC rfl rfl (Qc rfl rfl (WpL.nil (Wp.block ?_)))
   have hRw := hA.sla (y * W) ((y + 1) * W) c0 1 (by omega)
   rw [pxs_sub] at hRw
   rw [show (y + 1) * W - y * W = W by omega] at hRw ⊢
   obtain ⟨row, hrow⟩ : ∃ row, row = (px.drop (y * W)).take W := ⟨_, rfl⟩
   have hrl : row.length = W := by rw [hrow, List.length_take, List.length_drop]; omega
   have hrp : ∀ p ∈ row, p ∈ px := fun p hp => by rw [hrow] at hp; exact List.mem_of_mem_drop (List.mem_of_mem_take hp)
   rw [← hrow] at hRw
   refine Wp.loopD (σ := WjX) (fun z => z.j ≤ W ∧ z.m = ((row.take z.j).flatMap Qn).length) [13, 15, 63, 64, 65, 66, 67, 68, 69, 70, 71] (fun z => [(63, .int .i64 (z.j : Int)), (13, .slice z.a z.m z.c)]) (fun z => [QG 3 1 z.a z.c z.m (QY ((row.take z.j).flatMap Qn)), QG 5 1 (some ⟨gO, 0, none⟩) (st * Hn) (st * Hn) (Xr (Xg K W (Qg M) px y ++ zs (st * Hn - st * y))), QA g1 [.int .i64 K, .int .i64 (W : Int), .int .i64 (Hn : Int), .int .i64 M] 98, A0]) (fun z => W - z.j) ⟨0, none, 0, 0⟩ ?_ (by repeat (first | exact FrLe.nil | refine FrLe.cons rfl ?_)) ?_ ?_
   ·exact ⟨Nat.zero_le _, rfl⟩
   ·exact Ent.own_nil (T := 3) (s := 1) (Ent.refl _)
   ·rintro ⟨j, aR, cR, m⟩ ⟨hj, hm⟩
    dsimp only at hj hm ⊢
    have hml := flat_le (row.take j)
    rw [← hm, List.length_take] at hml
    refine Qb (Qa (Q7 rfl rfl rfl (WpL.nil (Qb (Ql rfl (fun h4 => ?_) (fun h4 => ?_))))))
    ·have hlj : j < row.length := by omega
     have hpp := hrp _ (List.getElem_mem hlj)
     have hpb := hr _ hpp
     have hun := hul _ hpp
     have hul3 := XD (row[j]'hlj)
     refine Wp.skip (Qb (Wp.block ?_))
     refine Qb (Qa (Q4 j rfl rfl rfl hRw (by exact Take.ent' (by repeat' constructor)) rfl (by omega) (by rw [X1]; omega) ?_))
     refine Q5 rfl rfl hRw (by exact Take.ent' (by repeat' constructor)) (YP row hlj) ?_
     refine Qe rfl rfl (WpL.nil (Qa (Qc rfl rfl (Qc rfl rfl (Qh rfl rfl (by repeat' constructor) (Yf _ hpb.1 hpb.2) ?_)))))
     rintro _ _ ⟨A1, a1, c1, rfl, rfl, hA1, hn1⟩
     simp only [Qr]
     refine s_appr rfl rfl rfl (by repeat' constructor) hA1 (by exact Take.ent' (by repeat' constructor)) (ints_ne (fun e => by rw [e] at hun; simp at hun; omega)) (by rw [QT, Nat.mul_one]) (by rfl) (by rfl) (ints_one _) (by omega) (by omega) ?_
     intro a70 c70
     rw [ints_app, ZA hlj]
     refine Qe rfl rfl (WpL.nil (Qa (QD rfl rfl rfl (Qu (by omega) (by omega)) ?_)))
     refine Qc rfl rfl (WpL.nil (Qv (⟨j + 1, a70, c70, m + (Qn (row[j]'hlj)).length⟩ : WjX) ?_ ?_ (by ((repeat (first | exact Top.refl | refine Top.push rfl ?_)); done)) (by repeat (first | exact FrLe.nil | refine FrLe.cons rfl ?_)) ?_))
     ·exact ⟨by simp only; omega, by simp only; rw [← ZA hlj, List.length_append, ← hm]⟩
     ·simp only; omega
     ·exact Take.ent' (by repeat' constructor)
    ·have hje : j = row.length := by omega
     subst hje
     rw [List.take_length] at hm ⊢
     obtain ⟨rw_, hrw⟩ : ∃ q, q = row.flatMap Qn := ⟨_, rfl⟩
     rw [← hrw] at hm ⊢
     subst hm
     have hrwl : rw_.length = W * (QW K).toNat := by rw [hrw, Ze row (fun p hp => hul p (hrp p hp)), hrl]
     have hrwb : ∀ x ∈ rw_, 0 ≤ x ∧ x ≤ M := fun x hx => by
      rw [hrw] at hx
      obtain ⟨p, hp, hx⟩ := List.mem_flatMap.1 hx
      exact ⟨(Yx p x hx).1, (hfit p (hrp p hp)).2.2 x hx⟩
     have hrwl2 : 1 ≤ rw_.length ∧ rw_.length ≤ 12288 := by rw [hrwl]; rcases hch with e | e <;> rw [e] <;> simp <;> omega
     have hRBl : (Y5 K (Qg M) rw_).length = QF K W (Qg M) := by
      by_cases h9 : K = 4
      ·have e1 : (QW K).toNat = 1 := by rw [h9]; rfl
       rw [show Y5 K (Qg M) rw_ = Yn rw_ from if_pos h9, show QF K W (Qg M) = (W + 7) / 8 from if_pos h9, YS, hrwl, e1, Nat.mul_one]
      ·rw [show Y5 K (Qg M) rw_ = rw_.flatMap (Ym (Qg M)) from if_neg h9, show QF K W (Qg M) = W * (QW K).toNat * Qg M from if_neg h9, Ve hw, hrwl]
     have hw1 : Qg M = 1 := if_neg (by omega)
     refine QM (Qb (Qb (Qa (Qj (o2 := 0) rfl rfl rfl (Qo rfl rfl (by rfl) ?_)))))
     refine QN rfl rfl rfl (WpL.nil (Qz rfl hK (Wp.skip (Qb (Qb (Qa (Qc rfl rfl (QC rfl rfl (Qc rfl rfl (WpL.nil (Wp.block ?_)))))))))))
     refine Wp.loopD (σ := WjX) (fun z => z.j ≤ rw_.length ∧ z.m = ((rw_.take z.j).flatMap (Ym (Qg M))).length) [12, 17, 82, 83, 84, 85, 86, 87, 88, 89, 90, 91, 92, 93, 94, 95, 96, 97, 98, 99, 100, 101, 102, 103, 104, 105, 106, 107] (fun z => [(82, .int .i64 (z.j : Int)), (12, .slice z.a z.m z.c)]) (fun z => [QG 5 1 z.a z.c z.m (Xr ((rw_.take z.j).flatMap (Ym (Qg M)))), QG 3 1 aR cR rw_.length (QY (rw_)), QG 5 1 (some ⟨gO, 0, none⟩) (st * Hn) (st * Hn) (Xr (Xg K W (Qg M) px y ++ zs (st * Hn - st * y))), QA g1 [.int .i64 K, .int .i64 (W : Int), .int .i64 (Hn : Int), .int .i64 M] 98, A0]) (fun z => rw_.length - z.j) ⟨0, none, 0, 0⟩ ?_ (by repeat (first | exact FrLe.nil | refine FrLe.cons rfl ?_)) ?_ ?_
     ·exact ⟨Nat.zero_le _, rfl⟩
     ·exact Ent.own_nil (T := 5) (s := 1) (Ent.refl _)
     ·rintro ⟨k, aB, cB, mB⟩ ⟨hk, hmB⟩
      dsimp only at hk hmB ⊢
      have hmBl := enc_le (Qg M) (rw_.take k)
      rw [← hmB, List.length_take] at hmBl
      refine Qb (Qa (Q7 rfl rfl rfl (WpL.nil (Qb (Ql rfl (fun h7 => ?_) (fun h7 => ?_))))))
      ·have hlk : k < rw_.length := by omega
       have hxb := hrwb _ (List.getElem_mem hlk)
       refine Wp.skip (Qb (Wp.block ?_))
       refine Qb (Qa (Q4 k rfl rfl rfl QE (by exact Take.ent' (by repeat' constructor)) rfl (by omega) (by rw [QT]; omega) ?_))
       refine Q5 rfl rfl QE (by exact Take.ent' (by repeat' constructor)) (Xi rw_ hlk) ?_
       refine Qe rfl rfl (WpL.nil (Wp.block ?_))
       refine Qb (Qa (Qj (o2 := 0) rfl rfl rfl (Qo rfl rfl (by rfl) ?_)))
       refine QN rfl rfl rfl (Qe rfl rfl (WpL.nil (Qz rfl hK (Qb (Qa ?_)))))
       refine QI (vs := [_, _, _, _]) rfl rfl rfl (by rfl) ?_
       refine Qh rfl rfl (by repeat' constructor) (YW _ _ _ _) ?_
       rintro _ _ ⟨rfl, rfl⟩
       simp only [Qr]
       refine QN rfl rfl rfl (Qe rfl rfl (WpL.nil (QU rfl (by omega) ?_)))
       refine Qa (Qc rfl rfl (Qc rfl rfl (Yg rfl Tryz.underlying3 rfl (w_u8 (by omega) (by omega)) ?_)))
       refine Yb rfl rfl rfl rfl ?_
       intro g3
       refine XA rfl rfl rfl (by repeat' constructor) (by rfl) (by rfl) (by rfl) (by rfl) (by omega) (by omega) ?_
       intro aN cN
       rw [YJ, show [rw_[k]'hlk] = Ym (Qg M) (rw_[k]'hlk) from by rw [hw1, encS1], ZZ hlk]
       refine Qe rfl rfl (WpL.nil (Qa (QD rfl rfl rfl (Qu (by omega) (by omega)) ?_)))
       refine Qc rfl rfl (WpL.nil (Qv (⟨k + 1, aN, cN, mB + 1⟩ : WjX) ?_ ?_ (by ((repeat (first | exact Top.refl | refine Top.push rfl ?_)); done)) (by repeat (first | exact FrLe.nil | refine FrLe.cons rfl ?_)) ?_))
       ·exact ⟨by simp only; omega, by simp only; rw [← ZZ hlk, List.length_append, ← hmB, hw1, encS1]; rfl⟩
       ·simp only; omega
       ·exact Ent.refl _
      ·have hke : k = rw_.length := by omega
       subst hke
       rw [List.take_length] at hmB ⊢
       have hRB : Y5 K (Qg M) rw_ = rw_.flatMap (Ym (Qg M)) := if_neg hK
       rw [← hRB] at hmB ⊢
       have hmst : mB = st := hmB.trans (hRBl.trans hstd.symm)
       rw [hmst]
       refine QM (Qa (Qc rfl rfl (Qc rfl rfl ?_)))
       refine QI (vs := [_, _, _, _]) rfl rfl rfl (by rfl) ?_
       refine Qh rfl rfl (by repeat' constructor) (ZM _ _ _ _ hR) ?_
       rintro _ _ ⟨rfl, rfl⟩
       simp only [Qr]
       rw [← hstd]
       refine XK rfl rfl rfl (Qu (by omega) (by omega)) ?_
       rw [hyst]
       refine s_sll_l (L := st * y) rfl rfl rfl rfl (by omega) ?_
       refine Qc rfl rfl (s_copyo rfl rfl rfl (by repeat' constructor) (by omega) (by omega) (by omega) (YM _) ?_)
       rw [row_putU (by rw [hstd]; exact Yc hw hpl hul y hy) (hRBl.trans hstd.symm) hyN, show Y5 K (Qg M) rw_ = Y5 K (Qg M) (((px.drop (y * W)).take W).flatMap Qn) from by rw [hrw, hrow], ← Za]
       refine WpL.nil (Qa (QD rfl rfl rfl (Qu (by omega) (by omega)) ?_))
       refine Qc rfl rfl (WpL.nil (Qv (⟨y + 1⟩ : WyX) ?_ ?_ (by ((repeat (first | exact Top.refl | refine Top.push rfl ?_)); done)) (by repeat (first | exact FrLe.nil | refine FrLe.cons rfl ?_)) ?_))
       ·simp only; omega
       ·simp only; omega
       ·exact Take.ent' (by repeat' constructor)
  ·have hye : y = Hn := by omega
   have hwl := Yc (K := K) (w := Qg M) hw hpl hul Hn (Nat.le_refl _)
   rw [← hstd] at hwl
   rw [hye, show zs (st * Hn - st * Hn) = [] from by rw [Nat.sub_self]; rfl, List.append_nil, ← hwl]
   refine QM (Qb (Qa (Qc rfl rfl (Qe rfl rfl (Qe rfl rfl (WpL.nil (Qi ?_)))))))
   apply RetQ.mk
   ·exact (QB rfl rfl rfl)
   ·exact ⟨_, _, rfl, Nat.le_refl _, rfl⟩
   ·exact Take.ent' (by repeat' constructor)

set_option maxHeartbeats 2000000 in
theorem RawWrite_c (A0 : HP) (a0 : Option Addr) (c0 : Nat) (px : List Int) (hA : RdsL [A0] a0 (Xp px)) (hr : ∀ p ∈ px, 0 ≤ p ∧ p < 18446744073709551616) (hc : px.length ≤ c0) (K : Int) (W Hn : Nat) (M : Int) (hR : RawH K (W : Int) (Hn : Int) M) (hpl : px.length = W * Hn) (hfit : ∀ p ∈ px, Yp p (QW K) M) (hK : K ≠ 4) (hM : ¬ M ≤ 255) : Fn Tryz.prog 91 #[.slice a0 px.length c0, .agg #[.int .i64 K, .int .i64 (W : Int), .int .i64 (Hn : Int), .int .i64 M]] [A0] (fun v l => ∃ a c, v = .tuple #[.slice a (Xg K W (Qg M) px Hn).length c, .int .i64 0] ∧ (Xg K W (Qg M) px Hn).length ≤ c ∧ l = [QG 5 1 a c (Xg K W (Qg M) px Hn).length (Xr (Xg K W (Qg M) px Hn)), A0]) := by
 have hb := hR.bd
 have hch := Y0 K
 have hw := Q2 M
 have hsb := XU (K := K) (W := W) hw (by omega) (by omega)
 have hWH : W * Hn ≤ 4096 * 65536 := Nat.mul_le_mul (by omega) (by omega)
 have hWHi : (W : Int) * (Hn : Int) = ((W * Hn : Nat) : Int) := by push_cast; rfl
 obtain ⟨st, hstd⟩ : ∃ st, st = QF K W (Qg M) := ⟨_, rfl⟩
 rw [← hstd] at hsb
 have hN : st * Hn ≤ 24576 * 65536 := Nat.mul_le_mul (by omega) (by omega)
 have hul : ∀ p ∈ px, (Qn p).length = (QW K).toNat := fun p hp => by have := Vc (hfit p hp); omega
 refine Qk (vs := [.slice a0 px.length c0, .agg #[.int .i64 K, .int .i64 (W : Int), .int .i64 (Hn : Int), .int .i64 M]]) Tryz.func91 rfl Tryz.ntmps91 rfl (Qb (Qa (Q9 rfl rfl rfl ?_)))
 intro g1
 refine Qe rfl rfl (Qe rfl rfl (WpL.nil (Qb (Qa ?_))))
 refine QI (vs := [_, _, _, _]) rfl rfl rfl (by rfl) ?_
 refine Qh rfl rfl (by repeat' constructor) (XJ _ _ _ _ (by omega)) ?_
 rintro _ _ ⟨rfl, rfl⟩
 simp only [Qr]
 rw [show (if K % 3 = 0 then (3 : Int) else 1) = QW K from rfl]
 refine YE rfl ?_
 intro gF
 refine XL rfl rfl rfl (by rfl) rfl ?_
 refine WpL.nil (Qb (Qa (s_mkf rfl (fun a hh => X6 hh _ _ rfl) ?_)))
 refine Qe rfl rfl (WpL.nil (Qb (Qb (Qa ?_))))
 refine QI (vs := [_, _, _, _]) rfl rfl rfl (by rfl) ?_
 refine Qh rfl rfl (by repeat' constructor) (ZL _ _ _ _ hR) ?_
 rintro _ _ ⟨gR, gB, b0, hb0, hb0z, rfl, rfl⟩
 simp only [Qr]
 refine Qc rfl rfl (QH rfl rfl rfl (QH rfl rfl rfl (Qe rfl rfl (Qe rfl rfl (WpL.nil (Qb (Qa (Qc rfl rfl (Xn rfl rfl rfl (Qc rfl rfl (Qy (dj := 28) rfl (by decide) ?_)))))))))))
 refine Qf rfl rfl (Qc rfl rfl (Qf rfl rfl (QC rfl rfl (Qf rfl rfl (Qj (o2 := 1) rfl rfl rfl (Qf rfl rfl (Qo rfl rfl (by rfl) ?_)))))))
 refine Qf rfl rfl (Qj (o2 := 2) rfl rfl rfl (Qf rfl rfl (Qo rfl rfl (by rfl) ?_)))
 refine Qf rfl rfl (XK rfl rfl rfl (Qu (by omega) (by omega)) ?_)
 rw [hWHi]
 refine Qf rfl rfl (Xn rfl rfl rfl (Qs rfl rfl rfl (Qc rfl rfl (Qy (dj := 38) rfl (decide_eq_false (fun h => h (by omega))) ?_))))
 refine Qf rfl rfl (Qc rfl rfl (Qf rfl rfl (Qc rfl rfl (Qf rfl rfl (Qh rfl rfl (by repeat' constructor) (YZ A0 a0 c0 px hA hr (by omega) gF (QW K) M) ?_)))))
 rintro _ _ ⟨rfl, rfl⟩
 simp only [Qr]
 refine Qs rfl rfl rfl (WpL.nil (Qz rfl (fun h => h hfit) ?_))
 refine Wp.skip (Qb (Qa ?_))
 refine QI (vs := [_, _, _, _]) rfl rfl rfl (by rfl) ?_
 refine Qh rfl rfl (by repeat' constructor) (Size_spec _ _ _ _ hR) ?_
 rintro _ _ ⟨rfl, rfl⟩
 simp only [Qr]
 rw [← hstd]
 refine s_mko (st * Hn) rfl rfl rfl (by omega) (by omega) rfl ?_
 intro gO
 rw [u8s_zero, show List.replicate (st * Hn) (0 : Int) = Xg K W (Qg M) px 0 ++ zs (st * Hn - st * 0) from rfl]
 refine Qe rfl rfl (WpL.nil (Qb (Qb (Qa (Qj (o2 := 2) rfl rfl rfl (Qo rfl rfl (by rfl) ?_))))))
 refine Qc rfl rfl (WpL.nil (Wp.block ?_))
 refine Wp.loopD (σ := WyX) (fun x => x.y ≤ Hn) [11, 12, 13, 15, 17, 48, 49, 50, 51, 52, 53, 54, 55, 56, 57, 58, 59, 60, 61, 62, 63, 64, 65, 66, 67, 68, 69, 70, 71, 72, 73, 74, 75, 76, 77, 78, 79, 80, 81, 82, 83, 84, 85, 86, 87, 88, 89, 90, 91, 92, 93, 94, 95, 96, 97, 98, 99, 100, 101, 102, 103, 104, 105, 106, 107, 108, 109, 110, 111, 112, 113, 114, 115, 116] (fun x => [(48, .int .i64 (x.y : Int))]) (fun x => [QG 5 1 (some ⟨gO, 0, none⟩) (st * Hn) (st * Hn) (Xr (Xg K W (Qg M) px x.y ++ zs (st * Hn - st * x.y))), QA g1 [.int .i64 K, .int .i64 (W : Int), .int .i64 (Hn : Int), .int .i64 M] 98, A0]) (fun x => Hn - x.y) ⟨0⟩ ?_ (by repeat (first | exact FrLe.nil | refine FrLe.cons rfl ?_)) ?_ ?_
 ·exact Nat.zero_le _
 ·exact Take.ent' (by repeat' constructor)
 ·rintro ⟨y⟩ hy
  dsimp only at hy ⊢
  refine Qb (Qa (Q7 rfl rfl rfl (WpL.nil (Qb (Ql rfl (fun h2 => ?_) (fun h2 => ?_))))))
  ·have hlt : y < Hn := by omega
   have hkW : (y + 1) * W = y * W + W := by rw [Nat.add_mul, Nat.one_mul]
   have hkW2 : (y + 1) * W ≤ Hn * W := Nat.mul_le_mul_right _ hlt
   rw [Nat.mul_comm Hn W] at hkW2
   have ei1 : (y : Int) * (W : Int) = ((y * W : Nat) : Int) := by push_cast; rfl
   have ei2 : ((y : Int) + 1) * (W : Int) = (((y + 1) * W : Nat) : Int) := by push_cast; rfl
   have hyN : st * (y + 1) ≤ st * Hn := Nat.mul_le_mul_left _ hlt
   have hyS : st * (y + 1) = st * y + st := by rw [Nat.mul_add, Nat.mul_one]
   have hyst : (y : Int) * (st : Int) = ((st * y : Nat) : Int) := by push_cast; rw [Int.mul_comm]
   refine Wp.skip (Qb (Wp.block ?_))
   refine Qb (Qa (Qc rfl rfl (Qe rfl rfl (WpL.nil (Qb (Qa (Qe rfl rfl (WpL.nil (Qb (Qa (Qe rfl rfl (WpL.nil ?_))))))))))))
   refine Qb (Qb (Qa (Qc rfl rfl (Qc rfl rfl (Qj (o2 := 1) rfl rfl rfl (Qo rfl rfl (by rfl) ?_))))))
   refine XK rfl rfl rfl (Qu (by omega) (by omega)) ?_
   rw [ei1]
   refine Qc rfl rfl (QD rfl rfl rfl (Qu (by omega) (by omega)) ?_)
   refine Qj (o2 := 1) rfl rfl rfl (Qo rfl rfl (by rfl) ?_)
   refine XK rfl rfl rfl (Qu (by omega) (by omega)) ?_
   rw [ei2]
   refine s_sll_lh (L := y * W) (H := (y + 1) * W) rfl rfl rfl rfl rfl rfl (by omega) (by omega) ?_
   refine QC rfl rfl (Qc rfl rfl (WpL.nil (Wp.block ?_)))
   have hRw := hA.sla (y * W) ((y + 1) * W) c0 1 (by omega)
   rw [pxs_sub] at hRw
   rw [show (y + 1) * W - y * W = W by omega] at hRw ⊢
   obtain ⟨row, hrow⟩ : ∃ row, row = (px.drop (y * W)).take W := ⟨_, rfl⟩
   have hrl : row.length = W := by rw [hrow, List.length_take, List.length_drop]; omega
   have hrp : ∀ p ∈ row, p ∈ px := fun p hp => by rw [hrow] at hp; exact List.mem_of_mem_drop (List.mem_of_mem_take hp)
   rw [← hrow] at hRw
   refine Wp.loopD (σ := WjX) (fun z => z.j ≤ W ∧ z.m = ((row.take z.j).flatMap Qn).length) [13, 15, 63, 64, 65, 66, 67, 68, 69, 70, 71] (fun z => [(63, .int .i64 (z.j : Int)), (13, .slice z.a z.m z.c)]) (fun z => [QG 3 1 z.a z.c z.m (QY ((row.take z.j).flatMap Qn)), QG 5 1 (some ⟨gO, 0, none⟩) (st * Hn) (st * Hn) (Xr (Xg K W (Qg M) px y ++ zs (st * Hn - st * y))), QA g1 [.int .i64 K, .int .i64 (W : Int), .int .i64 (Hn : Int), .int .i64 M] 98, A0]) (fun z => W - z.j) ⟨0, none, 0, 0⟩ ?_ (by repeat (first | exact FrLe.nil | refine FrLe.cons rfl ?_)) ?_ ?_
   ·exact ⟨Nat.zero_le _, rfl⟩
   ·exact Ent.own_nil (T := 3) (s := 1) (Ent.refl _)
   ·rintro ⟨j, aR, cR, m⟩ ⟨hj, hm⟩
    dsimp only at hj hm ⊢
    have hml := flat_le (row.take j)
    rw [← hm, List.length_take] at hml
    refine Qb (Qa (Q7 rfl rfl rfl (WpL.nil (Qb (Ql rfl (fun h4 => ?_) (fun h4 => ?_))))))
    ·have hlj : j < row.length := by omega
     have hpp := hrp _ (List.getElem_mem hlj)
     have hpb := hr _ hpp
     have hun := hul _ hpp
     have hul3 := XD (row[j]'hlj)
     refine Wp.skip (Qb (Wp.block ?_))
     refine Qb (Qa (Q4 j rfl rfl rfl hRw (by exact Take.ent' (by repeat' constructor)) rfl (by omega) (by rw [X1]; omega) ?_))
     refine Q5 rfl rfl hRw (by exact Take.ent' (by repeat' constructor)) (YP row hlj) ?_
     refine Qe rfl rfl (WpL.nil (Qa (Qc rfl rfl (Qc rfl rfl (Qh rfl rfl (by repeat' constructor) (Yf _ hpb.1 hpb.2) ?_)))))
     rintro _ _ ⟨A1, a1, c1, rfl, rfl, hA1, hn1⟩
     simp only [Qr]
     refine s_appr rfl rfl rfl (by repeat' constructor) hA1 (by exact Take.ent' (by repeat' constructor)) (ints_ne (fun e => by rw [e] at hun; simp at hun; omega)) (by rw [QT, Nat.mul_one]) (by rfl) (by rfl) (ints_one _) (by omega) (by omega) ?_
     intro a70 c70
     rw [ints_app, ZA hlj]
     refine Qe rfl rfl (WpL.nil (Qa (QD rfl rfl rfl (Qu (by omega) (by omega)) ?_)))
     refine Qc rfl rfl (WpL.nil (Qv (⟨j + 1, a70, c70, m + (Qn (row[j]'hlj)).length⟩ : WjX) ?_ ?_ (by ((repeat (first | exact Top.refl | refine Top.push rfl ?_)); done)) (by repeat (first | exact FrLe.nil | refine FrLe.cons rfl ?_)) ?_))
     ·exact ⟨by simp only; omega, by simp only; rw [← ZA hlj, List.length_append, ← hm]⟩
     ·simp only; omega
     ·exact Take.ent' (by repeat' constructor)
    ·have hje : j = row.length := by omega
     subst hje
     rw [List.take_length] at hm ⊢
     obtain ⟨rw_, hrw⟩ : ∃ q, q = row.flatMap Qn := ⟨_, rfl⟩
     rw [← hrw] at hm ⊢
     subst hm
     have hrwl : rw_.length = W * (QW K).toNat := by rw [hrw, Ze row (fun p hp => hul p (hrp p hp)), hrl]
     have hrwb : ∀ x ∈ rw_, 0 ≤ x ∧ x ≤ M := fun x hx => by
      rw [hrw] at hx
      obtain ⟨p, hp, hx⟩ := List.mem_flatMap.1 hx
      exact ⟨(Yx p x hx).1, (hfit p (hrp p hp)).2.2 x hx⟩
     have hrwl2 : 1 ≤ rw_.length ∧ rw_.length ≤ 12288 := by rw [hrwl]; rcases hch with e | e <;> rw [e] <;> simp <;> omega
     have hRBl : (Y5 K (Qg M) rw_).length = QF K W (Qg M) := by
      by_cases h9 : K = 4
      ·have e1 : (QW K).toNat = 1 := by rw [h9]; rfl
       rw [show Y5 K (Qg M) rw_ = Yn rw_ from if_pos h9, show QF K W (Qg M) = (W + 7) / 8 from if_pos h9, YS, hrwl, e1, Nat.mul_one]
      ·rw [show Y5 K (Qg M) rw_ = rw_.flatMap (Ym (Qg M)) from if_neg h9, show QF K W (Qg M) = W * (QW K).toNat * Qg M from if_neg h9, Ve hw, hrwl]
     have hw2 : Qg M = 2 := if_pos (by omega)
     refine QM (Qb (Qb (Qa (Qj (o2 := 0) rfl rfl rfl (Qo rfl rfl (by rfl) ?_)))))
     refine QN rfl rfl rfl (WpL.nil (Qz rfl hK (Wp.skip (Qb (Qb (Qa (Qc rfl rfl (QC rfl rfl (Qc rfl rfl (WpL.nil (Wp.block ?_)))))))))))
     refine Wp.loopD (σ := WjX) (fun z => z.j ≤ rw_.length ∧ z.m = ((rw_.take z.j).flatMap (Ym (Qg M))).length) [12, 17, 82, 83, 84, 85, 86, 87, 88, 89, 90, 91, 92, 93, 94, 95, 96, 97, 98, 99, 100, 101, 102, 103, 104, 105, 106, 107] (fun z => [(82, .int .i64 (z.j : Int)), (12, .slice z.a z.m z.c)]) (fun z => [QG 5 1 z.a z.c z.m (Xr ((rw_.take z.j).flatMap (Ym (Qg M)))), QG 3 1 aR cR rw_.length (QY (rw_)), QG 5 1 (some ⟨gO, 0, none⟩) (st * Hn) (st * Hn) (Xr (Xg K W (Qg M) px y ++ zs (st * Hn - st * y))), QA g1 [.int .i64 K, .int .i64 (W : Int), .int .i64 (Hn : Int), .int .i64 M] 98, A0]) (fun z => rw_.length - z.j) ⟨0, none, 0, 0⟩ ?_ (by repeat (first | exact FrLe.nil | refine FrLe.cons rfl ?_)) ?_ ?_
     ·exact ⟨Nat.zero_le _, rfl⟩
     ·exact Ent.own_nil (T := 5) (s := 1) (Ent.refl _)
     ·rintro ⟨k, aB, cB, mB⟩ ⟨hk, hmB⟩
      dsimp only at hk hmB ⊢
      have hmBl := enc_le (Qg M) (rw_.take k)
      rw [← hmB, List.length_take] at hmBl
      refine Qb (Qa (Q7 rfl rfl rfl (WpL.nil (Qb (Ql rfl (fun h7 => ?_) (fun h7 => ?_))))))
      ·have hlk : k < rw_.length := by omega
       have hxb := hrwb _ (List.getElem_mem hlk)
       refine Wp.skip (Qb (Wp.block ?_))
       refine Qb (Qa (Q4 k rfl rfl rfl QE (by exact Take.ent' (by repeat' constructor)) rfl (by omega) (by rw [QT]; omega) ?_))
       refine Q5 rfl rfl QE (by exact Take.ent' (by repeat' constructor)) (Xi rw_ hlk) ?_
       refine Qe rfl rfl (WpL.nil (Wp.block ?_))
       refine Qb (Qa (Qj (o2 := 0) rfl rfl rfl (Qo rfl rfl (by rfl) ?_)))
       refine QN rfl rfl rfl (Qe rfl rfl (WpL.nil (Qz rfl hK (Qb (Qa ?_)))))
       refine QI (vs := [_, _, _, _]) rfl rfl rfl (by rfl) ?_
       refine Qh rfl rfl (by repeat' constructor) (YW _ _ _ _) ?_
       rintro _ _ ⟨rfl, rfl⟩
       simp only [Qr]
       refine QN rfl rfl rfl (Qe rfl rfl (WpL.nil (Qz rfl (by omega) ?_)))
       refine Qa (Qc rfl rfl (Qc rfl rfl (s_shr 256 rfl rfl rfl (by decide) (by decide) (Yg rfl Tryz.underlying3 rfl (w_u8 (by omega) (by omega)) ?_))))
       refine Qc rfl rfl (s_cviw rfl Tryz.underlying3 rfl ?_)
       rw [wrap_u8]
       refine s_bs2 rfl rfl rfl rfl rfl rfl ?_
       intro g3
       refine XA rfl rfl rfl (by repeat' constructor) (by rfl) (by rfl) (by rfl) (by rfl) (by omega) (by omega) ?_
       intro aN cN
       rw [show ([.int .u8 (rw_[k]'hlk / 256), .int .u8 (rw_[k]'hlk % 256)] : List Value) = Xr (Ym (Qg M) (rw_[k]'hlk)) from by rw [hw2]; rfl, show ∀ xs ys : List Int, Xr xs ++ Xr ys = Xr (xs ++ ys) from fun xs ys => by simp [Xr], ZZ hlk]
       refine Qe rfl rfl (WpL.nil (Qa (QD rfl rfl rfl (Qu (by omega) (by omega)) ?_)))
       refine Qc rfl rfl (WpL.nil (Qv (⟨k + 1, aN, cN, mB + 2⟩ : WjX) ?_ ?_ (by ((repeat (first | exact Top.refl | refine Top.push rfl ?_)); done)) (by repeat (first | exact FrLe.nil | refine FrLe.cons rfl ?_)) ?_))
       ·exact ⟨by simp only; omega, by simp only; rw [← ZZ hlk, List.length_append, ← hmB, hw2, encS2]; rfl⟩
       ·simp only; omega
       ·exact Ent.refl _
      ·have hke : k = rw_.length := by omega
       subst hke
       rw [List.take_length] at hmB ⊢
       have hRB : Y5 K (Qg M) rw_ = rw_.flatMap (Ym (Qg M)) := if_neg hK
       rw [← hRB] at hmB ⊢
       have hmst : mB = st := hmB.trans (hRBl.trans hstd.symm)
       rw [hmst]
       refine QM (Qa (Qc rfl rfl (Qc rfl rfl ?_)))
       refine QI (vs := [_, _, _, _]) rfl rfl rfl (by rfl) ?_
       refine Qh rfl rfl (by repeat' constructor) (ZM _ _ _ _ hR) ?_
       rintro _ _ ⟨rfl, rfl⟩
       simp only [Qr]
       rw [← hstd]
       refine XK rfl rfl rfl (Qu (by omega) (by omega)) ?_
       rw [hyst]
       refine s_sll_l (L := st * y) rfl rfl rfl rfl (by omega) ?_
       refine Qc rfl rfl (s_copyo rfl rfl rfl (by repeat' constructor) (by omega) (by omega) (by omega) (YM _) ?_)
       rw [row_putU (by rw [hstd]; exact Yc hw hpl hul y hy) (hRBl.trans hstd.symm) hyN, show Y5 K (Qg M) rw_ = Y5 K (Qg M) (((px.drop (y * W)).take W).flatMap Qn) from by rw [hrw, hrow], ← Za]
       refine WpL.nil (Qa (QD rfl rfl rfl (Qu (by omega) (by omega)) ?_))
       refine Qc rfl rfl (WpL.nil (Qv (⟨y + 1⟩ : WyX) ?_ ?_ (by ((repeat (first | exact Top.refl | refine Top.push rfl ?_)); done)) (by repeat (first | exact FrLe.nil | refine FrLe.cons rfl ?_)) ?_))
       ·simp only; omega
       ·simp only; omega
       ·exact Take.ent' (by repeat' constructor)
  ·have hye : y = Hn := by omega
   have hwl := Yc (K := K) (w := Qg M) hw hpl hul Hn (Nat.le_refl _)
   rw [← hstd] at hwl
   rw [hye, show zs (st * Hn - st * Hn) = [] from by rw [Nat.sub_self]; rfl, List.append_nil, ← hwl]
   refine QM (Qb (Qa (Qc rfl rfl (Qe rfl rfl (Qe rfl rfl (WpL.nil (Qi ?_)))))))
   apply RetQ.mk
   ·exact (QB rfl rfl rfl)
   ·exact ⟨_, _, rfl, Nat.le_refl _, rfl⟩
   ·exact Take.ent' (by repeat' constructor)

end Go.Proofs.YtggamdlpiejbiaaGreat
