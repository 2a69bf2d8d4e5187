/- Walks and plain laws, a part of the proof of PnmJoins: every input that the law's guards let in, no condition beside. -/
import Derived.Test.YtggamdlpiejbiaaGreatM15
namespace Go.Proofs.YtggamdlpiejbiaaGreat
open Go.RowKit Go.Shelf


theorem YQ (K : Int) (W : Nat) (H M : Int) (hR : RawH K (W : Int) H M) (g : Nat) (a1 : Option Addr) (c1 : Nat) (bs : List Int) (hbs : ∀ x ∈ bs, 0 ≤ x ∧ x ≤ 255) (hbl : bs.length ≤ 100000) (n rows last e : Int) (hst : bs.length = QF K W (Qg M)) (hbc : bs.length ≤ c1) : Fn Tryz.prog 168 #[.pointer (some ⟨g, 0, none⟩)] [QA g [.int .i64 K, .int .i64 (W : Int), .int .i64 H, .int .i64 M, .slice a1 bs.length c1, .int .i64 n, .int .i64 rows, .int .i64 last, .int .i64 e] 198, QG 5 1 a1 c1 bs.length (Xr bs)] (fun v l => ∃ a3 c3, v = .slice a3 W c3 ∧ l = [QA g [.int .i64 K, .int .i64 (W : Int), .int .i64 H, .int .i64 M, .slice a1 bs.length c1, .int .i64 n, .int .i64 rows, .int .i64 last, .int .i64 e] 198, QG 5 1 a1 c1 bs.length (Xr bs), QG 92 1 a3 c3 W (Xp (Yw K W (Qg M) bs))]) := by
  by_cases h4 : K = 4
  · exact RawRow_a K W H M hR g a1 c1 bs hbs hbl n rows last e hst hbc h4
  · exact RawRow_b K W H M hR g a1 c1 bs hbs hbl n rows last e hst hbc h4
theorem set_bd {bs : List Int} {n : Nat} {c : Int} (h : ∀ x ∈ bs, 0 ≤ x ∧ x ≤ 255) (h0 : 0 ≤ c) (h1 : c ≤ 255) : ∀ x ∈ bs.set n c, 0 ≤ x ∧ x ≤ 255 := fun x hx => by
  rcases List.mem_or_eq_of_mem_set hx with hx | rfl
  · exact h x hx
  · exact ⟨h0, h1⟩

set_option maxHeartbeats 1000000 in
theorem RawPut_a (K : Int) (W : Nat) (H M : Int) (hR : RawH K (W : Int) H M) (g : Nat) (a1 : Option Addr) (c1 : Nat) (bs : List Int) (hbs : ∀ x ∈ bs, 0 ≤ x ∧ x ≤ 255) (hbl : bs.length ≤ 100000) (n : Nat) (rows last e : Int) (hst : bs.length = QF K W (Qg M)) (hbc : bs.length ≤ c1) (hn : n < bs.length) (hro : 0 ≤ rows ∧ rows ≤ 100000) (c : Int) (hc0 : 0 ≤ c) (hc1 : c ≤ 255) (h4 : K = 4) : Fn Tryz.prog 125 #[.pointer (some ⟨g, 0, none⟩), .int .u8 c] [QA g [.int .i64 K, .int .i64 (W : Int), .int .i64 H, .int .i64 M, .slice a1 bs.length c1, .int .i64 (n : Int), .int .i64 rows, .int .i64 last, .int .i64 e] 198, QG 5 1 a1 c1 bs.length (Xr bs)] (fun v l => ∃ b' n' rows' last' e' out a3 c3, ((⟨b', n', rows', last', e'⟩ : RW), out) = Xj K W H M ⟨bs, n, rows, last, e⟩ c ∧ v = .tuple #[.slice a3 out.length c3, .int .i64 last'] ∧ l = [QA g [.int .i64 K, .int .i64 (W : Int), .int .i64 H, .int .i64 M, .slice a1 b'.length c1, .int .i64 (n' : Int), .int .i64 rows', .int .i64 last', .int .i64 e'] 198, QG 5 1 a1 c1 b'.length (Xr b'), QG 92 1 a3 c3 out.length (Xp out)] ∧ (out = [] → a3 = none)) := by
 have hb := hR.bd
 have hch := Y0 K
 have hw := Q2 M
 have hsb := XU (K := K) (W := W) hw (by omega) (by omega)
 have hqd : 0 ≤ ((n : Int) + 1) / ((Qg M : Nat) : Int) ∧ ((n : Int) + 1) / ((Qg M : Nat) : Int) ≤ (n : Int) + 1 := by rcases hw with e | e <;> rw [e] <;> omega
 refine Qk (vs := [.pointer (some ⟨g, 0, none⟩), .int .u8 c]) Tryz.func125 rfl Tryz.ntmps125 rfl ?_
 refine Qb (Qa (Qe rfl rfl (Qe rfl rfl (WpL.nil (Qb (Qb (Qa (Qc rfl rfl (Qq rfl rfl (Qj (o2 := 7) rfl rfl rfl (Qo rfl rfl (by rfl) ?_)))))))))))
 refine Xn rfl rfl rfl (WpL.nil (Ql rfl (fun h0 => ?_) (fun h0 => ?_)))
 ·refine Qb ?_
  apply Q0 mixed [⟨12, _, []⟩, ⟨13, _, [0]⟩, ⟨14, _, [1]⟩, ⟨15, _, [2]⟩, ⟨4, _, []⟩, ⟨5, _, [3, 4, 0, 1, 2]⟩] rfl
  ·refine AllObs.mk ?_ ?_
   ·exact Qc rfl rfl (Qm rfl)
   refine AllObs.mk ?_ ?_
   ·exact Qq rfl rfl (Qm rfl)
   refine AllObs.mk ?_ ?_
   ·exact Qj (o2 := 7) rfl rfl rfl (Qm rfl)
   refine AllObs.mk ?_ ?_
   ·refine Qo rfl rfl (by rfl) ?_
    exact Qm rfl
   refine AllObs.mk ?_ ?_
   ·exact Qe rfl rfl (Qm rfl)
   refine AllObs.mk ?_ ?_
   ·exact Qe rfl rfl (Qm rfl)
   exact AllObs.nil
  ·refine Qi ?_
   apply RetQ.mk
   ·exact (QB rfl rfl rfl)
   ·exact ⟨bs, n, rows, last, e, [], none, 0, by unfold Xj; dsimp only; rw [if_pos h0], rfl, rfl, fun _ => rfl⟩
   ·exact (Ent.own_nil (T := 92) (s := 1) (Ent.refl _)).trans (Take.ent' (by repeat' constructor))
 ·have hl0 : last = 0 := Classical.not_not.1 h0
  subst hl0
  refine Wp.skip (Qb ?_)
  apply Xs (fB := []) mixed [(10, false)] (by kernel_rfl)
  apply Xk [⟨0, 16, _, [], false⟩, ⟨1, 17, _, [0], false⟩, ⟨2, 18, _, [1], false⟩, ⟨3, 19, _, [2], false⟩, ⟨4, 20, _, [], false⟩, ⟨5, 21, _, [4], false⟩, ⟨6, 22, _, [5], false⟩, ⟨7, 23, _, [6], false⟩, ⟨8, 24, _, [], false⟩, ⟨9, 25, _, [0, 1, 2, 3, 4, 5, 6, 7, 8], false⟩] [] [0, 1, 2, 3, 4, 5, 6, 7, 8, 9] [] (.inr rfl) rfl rfl rfl (by kernel_rfl) rfl rfl rfl
  ·refine AllF.cons rfl rfl rfl rfl ?_ ?_
   ·exact Qc rfl rfl (Qm rfl)
   refine AllF.cons rfl rfl rfl rfl ?_ ?_
   ·exact Qq rfl rfl (Qm rfl)
   refine AllF.cons rfl rfl rfl rfl ?_ ?_
   ·exact Qj (o2 := 4) rfl rfl rfl (Qm rfl)
   refine AllF.cons rfl rfl rfl rfl ?_ ?_
   ·refine Qo rfl rfl (by rfl) ?_
    exact Qm rfl
   refine AllF.cons rfl rfl rfl rfl ?_ ?_
   ·exact Qc rfl rfl (Qm rfl)
   refine AllF.cons rfl rfl rfl rfl ?_ ?_
   ·exact Qq rfl rfl (Qm rfl)
   refine AllF.cons rfl rfl rfl rfl ?_ ?_
   ·exact Qj (o2 := 5) rfl rfl rfl (Qm rfl)
   refine AllF.cons rfl rfl rfl rfl ?_ ?_
   ·refine Qo rfl rfl (by rfl) ?_
    exact Qm rfl
   refine AllF.cons rfl rfl rfl rfl ?_ ?_
   ·exact Qc rfl rfl (Qm rfl)
   refine AllF.cons rfl rfl rfl rfl ?_ ?_
   ·refine Q4 n rfl rfl rfl QE (by exact Take.ent' (by repeat' constructor)) rfl (by omega) (by rw [Xa]; omega) ?_
    exact Qm rfl
   exact AllF.nil
  ·refine s_sto rfl rfl rfl (by repeat' constructor) (by rw [Xa]; omega) ?_
   refine WpL.nil ⟨rfl, rfl, ?_⟩
   apply GoR.nil [] (.inr rfl) rfl rfl
   ·exact AllF.nil
   ·refine QO (gr := [(0, _)]) (FrLe.cons rfl FrLe.nil) ?_
    refine Qb (Qa ?_)
    rw [u8s_set]
    obtain ⟨b2, hb2⟩ : ∃ b2, b2 = bs.set n c := ⟨_, rfl⟩
    have hb2l : b2.length = bs.length := by rw [hb2, List.length_set]
    have hb2s : ∀ x ∈ b2, 0 ≤ x ∧ x ≤ 255 := by rw [hb2]; exact set_bd hbs hc0 hc1
    rw [← hb2, ← hb2l]
    refine Qc rfl rfl (Qq rfl rfl (Qj (o2 := 5) rfl rfl rfl (Qo rfl rfl (by rfl) ?_)))
    refine QD rfl rfl rfl (Qu (by omega) (by omega)) ?_
    refine Qq rfl rfl (Qj (o2 := 5) rfl rfl rfl (Q3 rfl rfl rfl (WpL.nil (Qb (Qb (Qa (Qc rfl rfl (Qq rfl rfl (Qj (o2 := 0) rfl rfl rfl ?_)))))))))
    refine QI (vs := [_, _, _, _]) rfl rfl rfl (by rfl) ?_
    refine Qh rfl rfl (by repeat' constructor) (YW _ _ _ _) ?_
    rintro _ _ ⟨rfl, rfl⟩
    simp only [Qr]
    refine Qe rfl rfl (WpL.nil (QO (gr := [(0, _), (6, _)]) (FrLe.cons rfl (FrLe.cons rfl FrLe.nil)) ?_))
    refine Qb ?_
    apply Q0 mixed [⟨38, _, []⟩, ⟨39, _, [0]⟩, ⟨40, _, [1]⟩, ⟨41, _, [2]⟩, ⟨42, _, [3]⟩, ⟨43, _, [4]⟩, ⟨44, _, [5]⟩, ⟨45, _, [6]⟩, ⟨46, _, [7, 6]⟩, ⟨47, _, [8, 6]⟩, ⟨48, _, [9, 6]⟩, ⟨49, _, [6]⟩, ⟨50, _, [10, 11, 6]⟩, ⟨51, _, [12, 6]⟩, ⟨52, _, [6, 13]⟩, ⟨53, _, [14, 6]⟩, ⟨54, _, [15]⟩, ⟨55, _, [15]⟩, ⟨56, _, [17, 15]⟩, ⟨57, _, [18, 15]⟩, ⟨58, _, [19, 15]⟩, ⟨59, _, [15]⟩, ⟨60, _, [20, 21, 15]⟩, ⟨61, _, [22, 15]⟩, ⟨62, _, [16, 23, 15]⟩, ⟨63, _, [15]⟩, ⟨64, _, [25, 15]⟩, ⟨65, _, [26, 15]⟩, ⟨66, _, [27, 15]⟩, ⟨67, _, [28, 15]⟩, ⟨68, _, [24, 29, 15]⟩, ⟨69, _, [15, 30]⟩] rfl
    ·refine AllObs.mk ?_ ?_
     ·exact Qc rfl rfl (Qm rfl)
     refine AllObs.mk ?_ ?_
     ·exact Qq rfl rfl (Qm rfl)
     refine AllObs.mk ?_ ?_
     ·exact Qj (o2 := 0) rfl rfl rfl (Qm rfl)
     refine AllObs.mk ?_ ?_
     ·exact Qj (o2 := 0) rfl rfl rfl (Qm rfl)
     refine AllObs.mk ?_ ?_
     ·refine Qo rfl rfl (by rfl) ?_
      exact Qm rfl
     refine AllObs.mk ?_ ?_
     ·exact Xn rfl rfl rfl (Qm rfl)
     refine AllObs.mk ?_ ?_
     ·exact Qc rfl rfl (Qm rfl)
     refine AllObs.mk ?_ ?_
     ·refine Qy (dj := 44) rfl (decide_eq_false (fun h => h h4)) ?_
      exact Qd rfl rfl rfl (by decide) (Qm rfl)
     refine AllObs.mk ?_ ?_
     ·refine Qy (dj := 44) rfl (decide_eq_false (fun h => h h4)) ?_
      exact Qd rfl rfl rfl (by decide) (Qm rfl)
     refine AllObs.mk ?_ ?_
     ·refine Qy (dj := 44) rfl (decide_eq_false (fun h => h h4)) ?_
      exact Qd rfl rfl rfl (by decide) (Qm rfl)
     refine AllObs.mk ?_ ?_
     ·refine Qy (dj := 44) rfl (decide_eq_false (fun h => h h4)) ?_
      exact Qd rfl rfl rfl (by decide) (Qm rfl)
     refine AllObs.mk ?_ ?_
     ·refine Qy (dj := 44) rfl (decide_eq_false (fun h => h h4)) ?_
      exact Qd rfl rfl rfl (by decide) (Qm rfl)
     refine AllObs.mk ?_ ?_
     ·refine Qy (dj := 44) rfl (decide_eq_false (fun h => h h4)) ?_
      exact Qd rfl rfl rfl (by decide) (Qm rfl)
     refine AllObs.mk ?_ ?_
     ·refine Qy (dj := 44) rfl (decide_eq_false (fun h => h h4)) ?_
      exact Qd rfl rfl rfl (by decide) (Qm rfl)
     refine AllObs.mk ?_ ?_
     ·refine Qy (dj := 44) rfl (decide_eq_false (fun h => h h4)) ?_
      exact Qs rfl rfl rfl (Qm rfl)
     refine AllObs.mk ?_ ?_
     ·exact Qc rfl rfl (Qm rfl)
     refine AllObs.mk ?_ ?_
     ·exact Qd rfl rfl rfl (by decide) (Qm rfl)
     refine AllObs.mk ?_ ?_
     ·exact Qd rfl rfl rfl (by decide) (Qm rfl)
     refine AllObs.mk ?_ ?_
     ·exact Qd rfl rfl rfl (by decide) (Qm rfl)
     refine AllObs.mk ?_ ?_
     ·exact Qd rfl rfl rfl (by decide) (Qm rfl)
     refine AllObs.mk ?_ ?_
     ·exact Qd rfl rfl rfl (by decide) (Qm rfl)
     refine AllObs.mk ?_ ?_
     ·exact Qd rfl rfl rfl (by decide) (Qm rfl)
     refine AllObs.mk ?_ ?_
     ·exact Qd rfl rfl rfl (by decide) (Qm rfl)
     refine AllObs.mk ?_ ?_
     ·exact Qd rfl rfl rfl (by decide) (Qm rfl)
     refine AllObs.mk ?_ ?_
     ·exact Qd rfl rfl rfl (by decide) (WpL.nil ⟨rfl, rfl, rfl, by exact Ent.refl _⟩)
     refine AllObs.mk ?_ ?_
     ·exact Qd rfl rfl rfl (by decide) (Qm rfl)
     refine AllObs.mk ?_ ?_
     ·exact Qd rfl rfl rfl (by decide) (Qm rfl)
     refine AllObs.mk ?_ ?_
     ·exact Qd rfl rfl rfl (by decide) (Qm rfl)
     refine AllObs.mk ?_ ?_
     ·exact Qd rfl rfl rfl (by decide) (Qm rfl)
     refine AllObs.mk ?_ ?_
     ·exact Qd rfl rfl rfl (by decide) (Qm rfl)
     refine AllObs.mk ?_ ?_
     ·exact Qd rfl rfl rfl (by decide) (Qm rfl)
     refine AllObs.mk ?_ ?_
     ·exact Qs rfl rfl rfl (Qm rfl)
     exact AllObs.nil
    ·refine QO (gr := [(0, _), (69, _)]) (FrLe.cons rfl (FrLe.cons rfl FrLe.nil)) ?_
     refine QZ rfl (Wp.skip (Qb (Qb ?_)))
     apply Q0 mixed [⟨80, _, []⟩, ⟨81, _, [0]⟩, ⟨82, _, [1]⟩, ⟨83, _, [2]⟩, ⟨84, _, []⟩, ⟨85, _, [4]⟩, ⟨86, _, [5]⟩, ⟨87, _, [6]⟩, ⟨88, _, [7]⟩, ⟨89, _, [3, 8]⟩] rfl
     ·refine AllObs.mk ?_ ?_
      ·exact Qc rfl rfl (Qm rfl)
      refine AllObs.mk ?_ ?_
      ·exact Qq rfl rfl (Qm rfl)
      refine AllObs.mk ?_ ?_
      ·exact Qj (o2 := 5) rfl rfl rfl (Qm rfl)
      refine AllObs.mk ?_ ?_
      ·refine Qo rfl rfl (by rfl) ?_
       exact Qm rfl
      refine AllObs.mk ?_ ?_
      ·exact Qc rfl rfl (Qm rfl)
      refine AllObs.mk ?_ ?_
      ·exact Qq rfl rfl (Qm rfl)
      refine AllObs.mk ?_ ?_
      ·exact Qj (o2 := 4) rfl rfl rfl (Qm rfl)
      refine AllObs.mk ?_ ?_
      ·refine Qo rfl rfl (by rfl) ?_
       exact Qm rfl
      refine AllObs.mk ?_ ?_
      ·exact QC rfl rfl (WpL.nil ⟨rfl, rfl, rfl, by exact Ent.refl _⟩)
      refine AllObs.mk ?_ ?_
      ·exact Q7 rfl rfl rfl (Qm rfl)
      exact AllObs.nil
     ·refine QO (gr := [(0, _), (89, _)]) (FrLe.cons rfl (FrLe.cons rfl FrLe.nil)) ?_
      refine Ql rfl (fun h2 => ?_) (fun h2 => ?_)
      ·refine Qb (Qa (Qe rfl rfl (Qe rfl rfl (WpL.nil (Qi ?_)))))
       rw [show (n : Int) + 1 = ((n + 1 : Nat) : Int) from rfl]
       apply RetQ.mk
       ·exact (QB rfl rfl rfl)
       ·exact ⟨b2, n + 1, rows, 0, e, [], none, 0, by subst hb2; unfold Xj; dsimp only; rw [if_neg (show ¬ (0 : Int) ≠ 0 by omega), if_neg (fun h => h.1 h4), if_pos (by have := hb2l; omega)], rfl, rfl, fun _ => rfl⟩
       ·exact (Ent.own_nil (T := 92) (s := 1) (Ent.refl _)).trans (Take.ent' (by repeat' constructor))
      ·have hlen : ¬ n + 1 < bs.length := by omega
       refine Wp.skip (Qb (Qa (Qc rfl rfl (Qq rfl rfl (Qj (o2 := 5) rfl rfl rfl (Q3 rfl rfl rfl (WpL.nil (Qb (Qa (Qc rfl rfl (Qq rfl rfl (Qj (o2 := 6) rfl rfl rfl ?_))))))))))))
       refine Qo rfl rfl (by rfl) ?_
       refine QD rfl rfl rfl (Qu (by omega) (by omega)) ?_
       refine Qq rfl rfl (Qj (o2 := 6) rfl rfl rfl (Q3 rfl rfl rfl (WpL.nil (QO (gr := [(0, _)]) (FrLe.cons rfl FrLe.nil) ?_))))
       refine Qb (Qb ?_)
       apply Q0 mixed [⟨100, _, []⟩, ⟨101, _, [0]⟩, ⟨102, _, [1]⟩, ⟨103, _, [2]⟩, ⟨104, _, []⟩, ⟨105, _, [4]⟩, ⟨106, _, [5]⟩, ⟨107, _, [6]⟩, ⟨108, _, [7]⟩, ⟨109, _, [3, 8]⟩] rfl
       ·refine AllObs.mk ?_ ?_
        ·exact Qc rfl rfl (Qm rfl)
        refine AllObs.mk ?_ ?_
        ·exact Qq rfl rfl (Qm rfl)
        refine AllObs.mk ?_ ?_
        ·exact Qj (o2 := 6) rfl rfl rfl (Qm rfl)
        refine AllObs.mk ?_ ?_
        ·refine Qo rfl rfl (by rfl) ?_
         exact Qm rfl
        refine AllObs.mk ?_ ?_
        ·exact Qc rfl rfl (Qm rfl)
        refine AllObs.mk ?_ ?_
        ·exact Qq rfl rfl (Qm rfl)
        refine AllObs.mk ?_ ?_
        ·exact Qj (o2 := 0) rfl rfl rfl (Qm rfl)
        refine AllObs.mk ?_ ?_
        ·exact Qj (o2 := 2) rfl rfl rfl (Qm rfl)
        refine AllObs.mk ?_ ?_
        ·refine Qo rfl rfl (by rfl) ?_
         exact Qm rfl
        refine AllObs.mk ?_ ?_
        ·exact QN rfl rfl rfl (Qm rfl)
        exact AllObs.nil
       ·refine QO (gr := [(0, _), (109, _)]) (FrLe.cons rfl (FrLe.cons rfl FrLe.nil)) ?_
        refine Ql rfl (fun h3 => ?_) (fun h3 => ?_)
        ·refine Qa (Qc rfl rfl (Qq rfl rfl (Qj (o2 := 7) rfl rfl rfl (Q3 rfl rfl rfl (WpL.nil (Qb ?_))))))
         apply X8 (fB := [QA g [.int .i64 K, .int .i64 (W : Int), .int .i64 H, .int .i64 M, .slice a1 b2.length c1, .int .i64 0, .int .i64 (rows + 1), .int .i64 1, .int .i64 e] 198]) [0, 2, 3, 4, 5, 1, 6, 7] [113, 115, 116, 117, 118, 114, 4, 5] 8 mixed (by kernel_rfl) [(5, false)] (by kernel_rfl) (by kernel_rfl) (by kernel_rfl)
         apply Xe [⟨0, 113, _, [], false⟩, ⟨1, 115, _, [], true⟩, ⟨2, 116, _, [1], true⟩, ⟨3, 117, _, [2], true⟩, ⟨4, 118, _, [3], true⟩] [] [0] [4, 5] [4, 5, 115, 116, 117, 118] (.inl ⟨_, by repeat' constructor⟩) rfl rfl rfl (by kernel_rfl) rfl (by kernel_rfl) rfl rfl
         ·refine Qp 0 [] rfl rfl rfl rfl (by kernel_rfl) rfl ?_ ?_
          ·exact Qc rfl rfl (Qm rfl)
          refine Qw 1 [] rfl rfl rfl rfl (by kernel_rfl) rfl ?_ ?_
          ·exact Qc rfl rfl (Qm rfl)
          refine Qw 2 [1] rfl rfl rfl rfl (by kernel_rfl) rfl ?_ ?_
          ·exact Qq rfl rfl (Qm rfl)
          refine Qw 3 [2] rfl rfl rfl rfl (by kernel_rfl) rfl ?_ ?_
          ·exact Qj (o2 := 7) rfl rfl rfl (Qm rfl)
          refine Qw 4 [3] rfl rfl rfl rfl (by kernel_rfl) rfl ?_ ?_
          ·refine Qo rfl rfl (by rfl) ?_
           exact Qm rfl
          exact AllF.nil
         ·refine Qh rfl rfl (by repeat' constructor) (YQ _ _ _ _ hR _ _ _ _ hb2s (by omega) _ _ _ _ (by rw [hb2l]; exact hst) (by rw [hb2l]; exact hbc)) ?_
          rintro _ _ ⟨a3, c3, rfl, rfl⟩
          simp only [Qr]
          refine WpL.nil ⟨rfl, rfl, ?_⟩
          apply X7 [⟨6, 4, _, [0, 5], false⟩, ⟨7, 5, _, [0, 1, 2, 3, 4, 5, 6], false⟩] 8 (by kernel_rfl) (.inl ⟨_, by repeat' constructor⟩) rfl rfl
          ·refine Qp 6 [0, 5] rfl rfl rfl rfl (by kernel_rfl) rfl ?_ ?_
           ·exact Qe rfl rfl (Qm rfl)
           refine Qp 7 [0, 1, 2, 3, 4, 5, 6] rfl rfl rfl rfl (by kernel_rfl) rfl ?_ ?_
           ·exact Qe rfl rfl (Qm rfl)
           exact AllF.nil
          ·refine Qi ?_
           apply RetQ.mk
           ·exact (QB rfl rfl rfl)
           ·have hrl := Y6 (K := K) (W := W) hw (hb2l.trans hst)
            exact ⟨b2, 0, (rows + 1), 1, e, (Yw K W (Qg M) b2), a3, c3, by subst hb2; unfold Xj; dsimp only; rw [if_neg (show ¬ (0 : Int) ≠ 0 by omega), if_neg (fun h => h.1 h4), if_neg (by omega), if_pos (by omega)], by rw [hrl], by rw [hrl], fun hr => (by rw [hr] at hrl; simp at hrl; omega)⟩
           ·exact Ent.refl _
        ·refine Wp.skip (Qb ?_)
         apply X8 (fB := [QA g [.int .i64 K, .int .i64 (W : Int), .int .i64 H, .int .i64 M, .slice a1 b2.length c1, .int .i64 0, .int .i64 (rows + 1), .int .i64 0, .int .i64 e] 198]) [0, 2, 3, 4, 5, 1, 6, 7] [113, 115, 116, 117, 118, 114, 4, 5] 8 mixed (by kernel_rfl) [(5, false)] (by kernel_rfl) (by kernel_rfl) (by kernel_rfl)
         apply Xe [⟨0, 113, _, [], false⟩, ⟨1, 115, _, [], true⟩, ⟨2, 116, _, [1], true⟩, ⟨3, 117, _, [2], true⟩, ⟨4, 118, _, [3], true⟩] [] [0] [4, 5] [4, 5, 115, 116, 117, 118] (.inl ⟨_, by repeat' constructor⟩) rfl rfl rfl (by kernel_rfl) rfl (by kernel_rfl) rfl rfl
         ·refine Qp 0 [] rfl rfl rfl rfl (by kernel_rfl) rfl ?_ ?_
          ·exact Qc rfl rfl (Qm rfl)
          refine Qw 1 [] rfl rfl rfl rfl (by kernel_rfl) rfl ?_ ?_
          ·exact Qc rfl rfl (Qm rfl)
          refine Qw 2 [1] rfl rfl rfl rfl (by kernel_rfl) rfl ?_ ?_
          ·exact Qq rfl rfl (Qm rfl)
          refine Qw 3 [2] rfl rfl rfl rfl (by kernel_rfl) rfl ?_ ?_
          ·exact Qj (o2 := 7) rfl rfl rfl (Qm rfl)
          refine Qw 4 [3] rfl rfl rfl rfl (by kernel_rfl) rfl ?_ ?_
          ·refine Qo rfl rfl (by rfl) ?_
           exact Qm rfl
          exact AllF.nil
         ·refine Qh rfl rfl (by repeat' constructor) (YQ _ _ _ _ hR _ _ _ _ hb2s (by omega) _ _ _ _ (by rw [hb2l]; exact hst) (by rw [hb2l]; exact hbc)) ?_
          rintro _ _ ⟨a3, c3, rfl, rfl⟩
          simp only [Qr]
          refine WpL.nil ⟨rfl, rfl, ?_⟩
          apply X7 [⟨6, 4, _, [0, 5], false⟩, ⟨7, 5, _, [0, 1, 2, 3, 4, 5, 6], false⟩] 8 (by kernel_rfl) (.inl ⟨_, by repeat' constructor⟩) rfl rfl
          ·refine Qp 6 [0, 5] rfl rfl rfl rfl (by kernel_rfl) rfl ?_ ?_
           ·exact Qe rfl rfl (Qm rfl)
           refine Qp 7 [0, 1, 2, 3, 4, 5, 6] rfl rfl rfl rfl (by kernel_rfl) rfl ?_ ?_
           ·exact Qe rfl rfl (Qm rfl)
           exact AllF.nil
          ·refine Qi ?_
           apply RetQ.mk
           ·exact (QB rfl rfl rfl)
           ·have hrl := Y6 (K := K) (W := W) hw (hb2l.trans hst)
            exact ⟨b2, 0, (rows + 1), 0, e, (Yw K W (Qg M) b2), a3, c3, by subst hb2; unfold Xj; dsimp only; rw [if_neg (show ¬ (0 : Int) ≠ 0 by omega), if_neg (fun h => h.1 h4), if_neg (by omega), if_neg (by omega)], by rw [hrl], by rw [hrl], fun hr => (by rw [hr] at hrl; simp at hrl; omega)⟩
           ·exact Ent.refl _

set_option maxHeartbeats 1000000 in
theorem RawPut_b (K : Int) (W : Nat) (H M : Int) (hR : RawH K (W : Int) H M) (g : Nat) (a1 : Option Addr) (c1 : Nat) (bs : List Int) (hbs : ∀ x ∈ bs, 0 ≤ x ∧ x ≤ 255) (hbl : bs.length ≤ 100000) (n : Nat) (rows last e : Int) (hst : bs.length = QF K W (Qg M)) (hbc : bs.length ≤ c1) (hn : n < bs.length) (hro : 0 ≤ rows ∧ rows ≤ 100000) (c : Int) (hc0 : 0 ≤ c) (hc1 : c ≤ 255) (h4 : K ≠ 4) (hm : ¬ ((n : Int) + 1) % ((Qg M : Nat) : Int) = 0) : Fn Tryz.prog 125 #[.pointer (some ⟨g, 0, none⟩), .int .u8 c] [QA g [.int .i64 K, .int .i64 (W : Int), .int .i64 H, .int .i64 M, .slice a1 bs.length c1, .int .i64 (n : Int), .int .i64 rows, .int .i64 last, .int .i64 e] 198, QG 5 1 a1 c1 bs.length (Xr bs)] (fun v l => ∃ b' n' rows' last' e' out a3 c3, ((⟨b', n', rows', last', e'⟩ : RW), out) = Xj K W H M ⟨bs, n, rows, last, e⟩ c ∧ v = .tuple #[.slice a3 out.length c3, .int .i64 last'] ∧ l = [QA g [.int .i64 K, .int .i64 (W : Int), .int .i64 H, .int .i64 M, .slice a1 b'.length c1, .int .i64 (n' : Int), .int .i64 rows', .int .i64 last', .int .i64 e'] 198, QG 5 1 a1 c1 b'.length (Xr b'), QG 92 1 a3 c3 out.length (Xp out)] ∧ (out = [] → a3 = none)) := by
 have hb := hR.bd
 have hch := Y0 K
 have hw := Q2 M
 have hsb := XU (K := K) (W := W) hw (by omega) (by omega)
 have hqd : 0 ≤ ((n : Int) + 1) / ((Qg M : Nat) : Int) ∧ ((n : Int) + 1) / ((Qg M : Nat) : Int) ≤ (n : Int) + 1 := by rcases hw with e | e <;> rw [e] <;> omega
 refine Qk (vs := [.pointer (some ⟨g, 0, none⟩), .int .u8 c]) Tryz.func125 rfl Tryz.ntmps125 rfl ?_
 refine Qb (Qa (Qe rfl rfl (Qe rfl rfl (WpL.nil (Qb (Qb (Qa (Qc rfl rfl (Qq rfl rfl (Qj (o2 := 7) rfl rfl rfl (Qo rfl rfl (by rfl) ?_)))))))))))
 refine Xn rfl rfl rfl (WpL.nil (Ql rfl (fun h0 => ?_) (fun h0 => ?_)))
 ·refine Qb ?_
  apply Q0 mixed [⟨12, _, []⟩, ⟨13, _, [0]⟩, ⟨14, _, [1]⟩, ⟨15, _, [2]⟩, ⟨4, _, []⟩, ⟨5, _, [3, 4, 0, 1, 2]⟩] rfl
  ·refine AllObs.mk ?_ ?_
   ·exact Qc rfl rfl (Qm rfl)
   refine AllObs.mk ?_ ?_
   ·exact Qq rfl rfl (Qm rfl)
   refine AllObs.mk ?_ ?_
   ·exact Qj (o2 := 7) rfl rfl rfl (Qm rfl)
   refine AllObs.mk ?_ ?_
   ·refine Qo rfl rfl (by rfl) ?_
    exact Qm rfl
   refine AllObs.mk ?_ ?_
   ·exact Qe rfl rfl (Qm rfl)
   refine AllObs.mk ?_ ?_
   ·exact Qe rfl rfl (Qm rfl)
   exact AllObs.nil
  ·refine Qi ?_
   apply RetQ.mk
   ·exact (QB rfl rfl rfl)
   ·exact ⟨bs, n, rows, last, e, [], none, 0, by unfold Xj; dsimp only; rw [if_pos h0], rfl, rfl, fun _ => rfl⟩
   ·exact (Ent.own_nil (T := 92) (s := 1) (Ent.refl _)).trans (Take.ent' (by repeat' constructor))
 ·have hl0 : last = 0 := Classical.not_not.1 h0
  subst hl0
  refine Wp.skip (Qb ?_)
  apply Xs (fB := []) mixed [(10, false)] (by kernel_rfl)
  apply Xk [⟨0, 16, _, [], false⟩, ⟨1, 17, _, [0], false⟩, ⟨2, 18, _, [1], false⟩, ⟨3, 19, _, [2], false⟩, ⟨4, 20, _, [], false⟩, ⟨5, 21, _, [4], false⟩, ⟨6, 22, _, [5], false⟩, ⟨7, 23, _, [6], false⟩, ⟨8, 24, _, [], false⟩, ⟨9, 25, _, [0, 1, 2, 3, 4, 5, 6, 7, 8], false⟩] [] [0, 1, 2, 3, 4, 5, 6, 7, 8, 9] [] (.inr rfl) rfl rfl rfl (by kernel_rfl) rfl rfl rfl
  ·refine AllF.cons rfl rfl rfl rfl ?_ ?_
   ·exact Qc rfl rfl (Qm rfl)
   refine AllF.cons rfl rfl rfl rfl ?_ ?_
   ·exact Qq rfl rfl (Qm rfl)
   refine AllF.cons rfl rfl rfl rfl ?_ ?_
   ·exact Qj (o2 := 4) rfl rfl rfl (Qm rfl)
   refine AllF.cons rfl rfl rfl rfl ?_ ?_
   ·refine Qo rfl rfl (by rfl) ?_
    exact Qm rfl
   refine AllF.cons rfl rfl rfl rfl ?_ ?_
   ·exact Qc rfl rfl (Qm rfl)
   refine AllF.cons rfl rfl rfl rfl ?_ ?_
   ·exact Qq rfl rfl (Qm rfl)
   refine AllF.cons rfl rfl rfl rfl ?_ ?_
   ·exact Qj (o2 := 5) rfl rfl rfl (Qm rfl)
   refine AllF.cons rfl rfl rfl rfl ?_ ?_
   ·refine Qo rfl rfl (by rfl) ?_
    exact Qm rfl
   refine AllF.cons rfl rfl rfl rfl ?_ ?_
   ·exact Qc rfl rfl (Qm rfl)
   refine AllF.cons rfl rfl rfl rfl ?_ ?_
   ·refine Q4 n rfl rfl rfl QE (by exact Take.ent' (by repeat' constructor)) rfl (by omega) (by rw [Xa]; omega) ?_
    exact Qm rfl
   exact AllF.nil
  ·refine s_sto rfl rfl rfl (by repeat' constructor) (by rw [Xa]; omega) ?_
   refine WpL.nil ⟨rfl, rfl, ?_⟩
   apply GoR.nil [] (.inr rfl) rfl rfl
   ·exact AllF.nil
   ·refine QO (gr := [(0, _)]) (FrLe.cons rfl FrLe.nil) ?_
    refine Qb (Qa ?_)
    rw [u8s_set]
    obtain ⟨b2, hb2⟩ : ∃ b2, b2 = bs.set n c := ⟨_, rfl⟩
    have hb2l : b2.length = bs.length := by rw [hb2, List.length_set]
    have hb2s : ∀ x ∈ b2, 0 ≤ x ∧ x ≤ 255 := by rw [hb2]; exact set_bd hbs hc0 hc1
    rw [← hb2, ← hb2l]
    refine Qc rfl rfl (Qq rfl rfl (Qj (o2 := 5) rfl rfl rfl (Qo rfl rfl (by rfl) ?_)))
    refine QD rfl rfl rfl (Qu (by omega) (by omega)) ?_
    refine Qq rfl rfl (Qj (o2 := 5) rfl rfl rfl (Q3 rfl rfl rfl (WpL.nil (Qb (Qb (Qa (Qc rfl rfl (Qq rfl rfl (Qj (o2 := 0) rfl rfl rfl ?_)))))))))
    refine QI (vs := [_, _, _, _]) rfl rfl rfl (by rfl) ?_
    refine Qh rfl rfl (by repeat' constructor) (YW _ _ _ _) ?_
    rintro _ _ ⟨rfl, rfl⟩
    simp only [Qr]
    refine Qe rfl rfl (WpL.nil (QO (gr := [(0, _), (6, _)]) (FrLe.cons rfl (FrLe.cons rfl FrLe.nil)) ?_))
    refine Qb ?_
    apply Q0 mixed [⟨38, _, []⟩, ⟨39, _, [0]⟩, ⟨40, _, [1]⟩, ⟨41, _, [2]⟩, ⟨42, _, [3]⟩, ⟨43, _, [4]⟩, ⟨44, _, [5]⟩, ⟨45, _, [6]⟩, ⟨46, _, [7, 6]⟩, ⟨47, _, [8, 6]⟩, ⟨48, _, [9, 6]⟩, ⟨49, _, [6]⟩, ⟨50, _, [10, 11, 6]⟩, ⟨51, _, [12, 6]⟩, ⟨52, _, [6, 13]⟩, ⟨53, _, [14, 6]⟩, ⟨54, _, [15]⟩, ⟨55, _, [15]⟩, ⟨56, _, [17, 15]⟩, ⟨57, _, [18, 15]⟩, ⟨58, _, [19, 15]⟩, ⟨59, _, [15]⟩, ⟨60, _, [20, 21, 15]⟩, ⟨61, _, [22, 15]⟩, ⟨62, _, [16, 23, 15]⟩, ⟨63, _, [15]⟩, ⟨64, _, [25, 15]⟩, ⟨65, _, [26, 15]⟩, ⟨66, _, [27, 15]⟩, ⟨67, _, [28, 15]⟩, ⟨68, _, [24, 29, 15]⟩, ⟨69, _, [15, 30]⟩] rfl
    ·refine AllObs.mk ?_ ?_
     ·exact Qc rfl rfl (Qm rfl)
     refine AllObs.mk ?_ ?_
     ·exact Qq rfl rfl (Qm rfl)
     refine AllObs.mk ?_ ?_
     ·exact Qj (o2 := 0) rfl rfl rfl (Qm rfl)
     refine AllObs.mk ?_ ?_
     ·exact Qj (o2 := 0) rfl rfl rfl (Qm rfl)
     refine AllObs.mk ?_ ?_
     ·refine Qo rfl rfl (by rfl) ?_
      exact Qm rfl
     refine AllObs.mk ?_ ?_
     ·exact Xn rfl rfl rfl (Qm rfl)
     refine AllObs.mk ?_ ?_
     ·exact Qc rfl rfl (Qm rfl)
     refine AllObs.mk ?_ ?_
     ·refine Qx (dj := 44) rfl (decide_eq_true h4) ?_
      exact Qf rfl rfl (Qc rfl rfl (Qm rfl))
     refine AllObs.mk ?_ ?_
     ·refine Qx (dj := 44) rfl (decide_eq_true h4) ?_
      exact Qf rfl rfl (Qq rfl rfl (Qm rfl))
     refine AllObs.mk ?_ ?_
     ·refine Qx (dj := 44) rfl (decide_eq_true h4) ?_
      exact Qf rfl rfl (Qj (o2 := 5) rfl rfl rfl (Qm rfl))
     refine AllObs.mk ?_ ?_
     ·refine Qx (dj := 44) rfl (decide_eq_true h4) ?_
      refine Qf rfl rfl (Qo rfl rfl (by rfl) ?_)
      exact Qm rfl
     refine AllObs.mk ?_ ?_
     ·refine Qx (dj := 44) rfl (decide_eq_true h4) ?_
      exact Qf rfl rfl (Qc rfl rfl (Qm rfl))
     refine AllObs.mk ?_ ?_
     ·refine Qx (dj := 44) rfl (decide_eq_true h4) ?_
      refine Qf rfl rfl (YV rfl rfl rfl (by omega) (by omega) ?_)
      exact Qm rfl
     refine AllObs.mk ?_ ?_
     ·refine Qx (dj := 44) rfl (decide_eq_true h4) ?_
      exact Qf rfl rfl (QN rfl rfl rfl (Qm rfl))
     refine AllObs.mk ?_ ?_
     ·refine Qx (dj := 44) rfl (decide_eq_true h4) ?_
      exact Qt rfl rfl rfl (Qm rfl)
     refine AllObs.mk ?_ ?_
     ·exact Qc rfl rfl (Qm rfl)
     refine AllObs.mk ?_ ?_
     ·refine Qy (dj := 53) rfl (decide_eq_false hm) ?_
      exact Qd rfl rfl rfl (by decide) (Qm rfl)
     refine AllObs.mk ?_ ?_
     ·refine Qy (dj := 53) rfl (decide_eq_false hm) ?_
      exact Qd rfl rfl rfl (by decide) (Qm rfl)
     refine AllObs.mk ?_ ?_
     ·refine Qy (dj := 53) rfl (decide_eq_false hm) ?_
      exact Qd rfl rfl rfl (by decide) (Qm rfl)
     refine AllObs.mk ?_ ?_
     ·refine Qy (dj := 53) rfl (decide_eq_false hm) ?_
      exact Qd rfl rfl rfl (by decide) (Qm rfl)
     refine AllObs.mk ?_ ?_
     ·refine Qy (dj := 53) rfl (decide_eq_false hm) ?_
      exact Qd rfl rfl rfl (by decide) (Qm rfl)
     refine AllObs.mk ?_ ?_
     ·refine Qy (dj := 53) rfl (decide_eq_false hm) ?_
      exact Qd rfl rfl rfl (by decide) (Qm rfl)
     refine AllObs.mk ?_ ?_
     ·refine Qy (dj := 53) rfl (decide_eq_false hm) ?_
      exact Qd rfl rfl rfl (by decide) (Qm rfl)
     refine AllObs.mk ?_ ?_
     ·refine Qy (dj := 53) rfl (decide_eq_false hm) ?_
      exact Qd rfl rfl rfl (by decide) (Qm rfl)
     refine AllObs.mk ?_ ?_
     ·refine Qy (dj := 53) rfl (decide_eq_false hm) ?_
      exact Qd rfl rfl rfl (by decide) (WpL.nil ⟨rfl, rfl, rfl, by exact Ent.refl _⟩)
     refine AllObs.mk ?_ ?_
     ·refine Qy (dj := 53) rfl (decide_eq_false hm) ?_
      exact Qd rfl rfl rfl (by decide) (Qm rfl)
     refine AllObs.mk ?_ ?_
     ·refine Qy (dj := 53) rfl (decide_eq_false hm) ?_
      exact Qd rfl rfl rfl (by decide) (Qm rfl)
     refine AllObs.mk ?_ ?_
     ·refine Qy (dj := 53) rfl (decide_eq_false hm) ?_
      exact Qd rfl rfl rfl (by decide) (Qm rfl)
     refine AllObs.mk ?_ ?_
     ·refine Qy (dj := 53) rfl (decide_eq_false hm) ?_
      exact Qd rfl rfl rfl (by decide) (Qm rfl)
     refine AllObs.mk ?_ ?_
     ·refine Qy (dj := 53) rfl (decide_eq_false hm) ?_
      exact Qd rfl rfl rfl (by decide) (Qm rfl)
     refine AllObs.mk ?_ ?_
     ·refine Qy (dj := 53) rfl (decide_eq_false hm) ?_
      exact Qd rfl rfl rfl (by decide) (Qm rfl)
     refine AllObs.mk ?_ ?_
     ·refine Qy (dj := 53) rfl (decide_eq_false hm) ?_
      exact Qs rfl rfl rfl (Qm rfl)
     exact AllObs.nil
    ·refine QO (gr := [(0, _), (69, _)]) (FrLe.cons rfl (FrLe.cons rfl FrLe.nil)) ?_
     refine QZ rfl (Wp.skip (Qb (Qb ?_)))
     apply Q0 mixed [⟨80, _, []⟩, ⟨81, _, [0]⟩, ⟨82, _, [1]⟩, ⟨83, _, [2]⟩, ⟨84, _, []⟩, ⟨85, _, [4]⟩, ⟨86, _, [5]⟩, ⟨87, _, [6]⟩, ⟨88, _, [7]⟩, ⟨89, _, [3, 8]⟩] rfl
     ·refine AllObs.mk ?_ ?_
      ·exact Qc rfl rfl (Qm rfl)
      refine AllObs.mk ?_ ?_
      ·exact Qq rfl rfl (Qm rfl)
      refine AllObs.mk ?_ ?_
      ·exact Qj (o2 := 5) rfl rfl rfl (Qm rfl)
      refine AllObs.mk ?_ ?_
      ·refine Qo rfl rfl (by rfl) ?_
       exact Qm rfl
      refine AllObs.mk ?_ ?_
      ·exact Qc rfl rfl (Qm rfl)
      refine AllObs.mk ?_ ?_
      ·exact Qq rfl rfl (Qm rfl)
      refine AllObs.mk ?_ ?_
      ·exact Qj (o2 := 4) rfl rfl rfl (Qm rfl)
      refine AllObs.mk ?_ ?_
      ·refine Qo rfl rfl (by rfl) ?_
       exact Qm rfl
      refine AllObs.mk ?_ ?_
      ·exact QC rfl rfl (WpL.nil ⟨rfl, rfl, rfl, by exact Ent.refl _⟩)
      refine AllObs.mk ?_ ?_
      ·exact Q7 rfl rfl rfl (Qm rfl)
      exact AllObs.nil
     ·refine QO (gr := [(0, _), (89, _)]) (FrLe.cons rfl (FrLe.cons rfl FrLe.nil)) ?_
      refine Ql rfl (fun h2 => ?_) (fun h2 => ?_)
      ·refine Qb (Qa (Qe rfl rfl (Qe rfl rfl (WpL.nil (Qi ?_)))))
       rw [show (n : Int) + 1 = ((n + 1 : Nat) : Int) from rfl]
       apply RetQ.mk
       ·exact (QB rfl rfl rfl)
       ·exact ⟨b2, n + 1, rows, 0, e, [], none, 0, by subst hb2; unfold Xj; dsimp only; rw [if_neg (show ¬ (0 : Int) ≠ 0 by omega), if_neg (fun h => hm (by have := h.2.1; rcases hw with e | e <;> rw [e] at this ⊢ <;> omega)), if_pos (by have := hb2l; omega)], rfl, rfl, fun _ => rfl⟩
       ·exact (Ent.own_nil (T := 92) (s := 1) (Ent.refl _)).trans (Take.ent' (by repeat' constructor))
      ·have hlen : ¬ n + 1 < bs.length := by omega
       refine Wp.skip (Qb (Qa (Qc rfl rfl (Qq rfl rfl (Qj (o2 := 5) rfl rfl rfl (Q3 rfl rfl rfl (WpL.nil (Qb (Qa (Qc rfl rfl (Qq rfl rfl (Qj (o2 := 6) rfl rfl rfl ?_))))))))))))
       refine Qo rfl rfl (by rfl) ?_
       refine QD rfl rfl rfl (Qu (by omega) (by omega)) ?_
       refine Qq rfl rfl (Qj (o2 := 6) rfl rfl rfl (Q3 rfl rfl rfl (WpL.nil (QO (gr := [(0, _)]) (FrLe.cons rfl FrLe.nil) ?_))))
       refine Qb (Qb ?_)
       apply Q0 mixed [⟨100, _, []⟩, ⟨101, _, [0]⟩, ⟨102, _, [1]⟩, ⟨103, _, [2]⟩, ⟨104, _, []⟩, ⟨105, _, [4]⟩, ⟨106, _, [5]⟩, ⟨107, _, [6]⟩, ⟨108, _, [7]⟩, ⟨109, _, [3, 8]⟩] rfl
       ·refine AllObs.mk ?_ ?_
        ·exact Qc rfl rfl (Qm rfl)
        refine AllObs.mk ?_ ?_
        ·exact Qq rfl rfl (Qm rfl)
        refine AllObs.mk ?_ ?_
        ·exact Qj (o2 := 6) rfl rfl rfl (Qm rfl)
        refine AllObs.mk ?_ ?_
        ·refine Qo rfl rfl (by rfl) ?_
         exact Qm rfl
        refine AllObs.mk ?_ ?_
        ·exact Qc rfl rfl (Qm rfl)
        refine AllObs.mk ?_ ?_
        ·exact Qq rfl rfl (Qm rfl)
        refine AllObs.mk ?_ ?_
        ·exact Qj (o2 := 0) rfl rfl rfl (Qm rfl)
        refine AllObs.mk ?_ ?_
        ·exact Qj (o2 := 2) rfl rfl rfl (Qm rfl)
        refine AllObs.mk ?_ ?_
        ·refine Qo rfl rfl (by rfl) ?_
         exact Qm rfl
        refine AllObs.mk ?_ ?_
        ·exact QN rfl rfl rfl (Qm rfl)
        exact AllObs.nil
       ·refine QO (gr := [(0, _), (109, _)]) (FrLe.cons rfl (FrLe.cons rfl FrLe.nil)) ?_
        refine Ql rfl (fun h3 => ?_) (fun h3 => ?_)
        ·refine Qa (Qc rfl rfl (Qq rfl rfl (Qj (o2 := 7) rfl rfl rfl (Q3 rfl rfl rfl (WpL.nil (Qb ?_))))))
         apply X8 (fB := [QA g [.int .i64 K, .int .i64 (W : Int), .int .i64 H, .int .i64 M, .slice a1 b2.length c1, .int .i64 0, .int .i64 (rows + 1), .int .i64 1, .int .i64 e] 198]) [0, 2, 3, 4, 5, 1, 6, 7] [113, 115, 116, 117, 118, 114, 4, 5] 8 mixed (by kernel_rfl) [(5, false)] (by kernel_rfl) (by kernel_rfl) (by kernel_rfl)
         apply Xe [⟨0, 113, _, [], false⟩, ⟨1, 115, _, [], true⟩, ⟨2, 116, _, [1], true⟩, ⟨3, 117, _, [2], true⟩, ⟨4, 118, _, [3], true⟩] [] [0] [4, 5] [4, 5, 115, 116, 117, 118] (.inl ⟨_, by repeat' constructor⟩) rfl rfl rfl (by kernel_rfl) rfl (by kernel_rfl) rfl rfl
         ·refine Qp 0 [] rfl rfl rfl rfl (by kernel_rfl) rfl ?_ ?_
          ·exact Qc rfl rfl (Qm rfl)
          refine Qw 1 [] rfl rfl rfl rfl (by kernel_rfl) rfl ?_ ?_
          ·exact Qc rfl rfl (Qm rfl)
          refine Qw 2 [1] rfl rfl rfl rfl (by kernel_rfl) rfl ?_ ?_
          ·exact Qq rfl rfl (Qm rfl)
          refine Qw 3 [2] rfl rfl rfl rfl (by kernel_rfl) rfl ?_ ?_
          ·exact Qj (o2 := 7) rfl rfl rfl (Qm rfl)
          refine Qw 4 [3] rfl rfl rfl rfl (by kernel_rfl) rfl ?_ ?_
          ·refine Qo rfl rfl (by rfl) ?_
           exact Qm rfl
          exact AllF.nil
         ·refine Qh rfl rfl (by repeat' constructor) (YQ _ _ _ _ hR _ _ _ _ hb2s (by omega) _ _ _ _ (by rw [hb2l]; exact hst) (by rw [hb2l]; exact hbc)) ?_
          rintro _ _ ⟨a3, c3, rfl, rfl⟩
          simp only [Qr]
          refine WpL.nil ⟨rfl, rfl, ?_⟩
          apply X7 [⟨6, 4, _, [0, 5], false⟩, ⟨7, 5, _, [0, 1, 2, 3, 4, 5, 6], false⟩] 8 (by kernel_rfl) (.inl ⟨_, by repeat' constructor⟩) rfl rfl
          ·refine Qp 6 [0, 5] rfl rfl rfl rfl (by kernel_rfl) rfl ?_ ?_
           ·exact Qe rfl rfl (Qm rfl)
           refine Qp 7 [0, 1, 2, 3, 4, 5, 6] rfl rfl rfl rfl (by kernel_rfl) rfl ?_ ?_
           ·exact Qe rfl rfl (Qm rfl)
           exact AllF.nil
          ·refine Qi ?_
           apply RetQ.mk
           ·exact (QB rfl rfl rfl)
           ·have hrl := Y6 (K := K) (W := W) hw (hb2l.trans hst)
            exact ⟨b2, 0, (rows + 1), 1, e, (Yw K W (Qg M) b2), a3, c3, by subst hb2; unfold Xj; dsimp only; rw [if_neg (show ¬ (0 : Int) ≠ 0 by omega), if_neg (fun h => hm (by have := h.2.1; rcases hw with e | e <;> rw [e] at this ⊢ <;> omega)), if_neg (by omega), if_pos (by omega)], by rw [hrl], by rw [hrl], fun hr => (by rw [hr] at hrl; simp at hrl; omega)⟩
           ·exact Ent.refl _
        ·refine Wp.skip (Qb ?_)
         apply X8 (fB := [QA g [.int .i64 K, .int .i64 (W : Int), .int .i64 H, .int .i64 M, .slice a1 b2.length c1, .int .i64 0, .int .i64 (rows + 1), .int .i64 0, .int .i64 e] 198]) [0, 2, 3, 4, 5, 1, 6, 7] [113, 115, 116, 117, 118, 114, 4, 5] 8 mixed (by kernel_rfl) [(5, false)] (by kernel_rfl) (by kernel_rfl) (by kernel_rfl)
         apply Xe [⟨0, 113, _, [], false⟩, ⟨1, 115, _, [], true⟩, ⟨2, 116, _, [1], true⟩, ⟨3, 117, _, [2], true⟩, ⟨4, 118, _, [3], true⟩] [] [0] [4, 5] [4, 5, 115, 116, 117, 118] (.inl ⟨_, by repeat' constructor⟩) rfl rfl rfl (by kernel_rfl) rfl (by kernel_rfl) rfl rfl
         ·refine Qp 0 [] rfl rfl rfl rfl (by kernel_rfl) rfl ?_ ?_
          ·exact Qc rfl rfl (Qm rfl)
          refine Qw 1 [] rfl rfl rfl rfl (by kernel_rfl) rfl ?_ ?_
          ·exact Qc rfl rfl (Qm rfl)
          refine Qw 2 [1] rfl rfl rfl rfl (by kernel_rfl) rfl ?_ ?_
          ·exact Qq rfl rfl (Qm rfl)
          refine Qw 3 [2] rfl rfl rfl rfl (by kernel_rfl) rfl ?_ ?_
          ·exact Qj (o2 := 7) rfl rfl rfl (Qm rfl)
          refine Qw 4 [3] rfl rfl rfl rfl (by kernel_rfl) rfl ?_ ?_
          ·refine Qo rfl rfl (by rfl) ?_
           exact Qm rfl
          exact AllF.nil
         ·refine Qh rfl rfl (by repeat' constructor) (YQ _ _ _ _ hR _ _ _ _ hb2s (by omega) _ _ _ _ (by rw [hb2l]; exact hst) (by rw [hb2l]; exact hbc)) ?_
          rintro _ _ ⟨a3, c3, rfl, rfl⟩
          simp only [Qr]
          refine WpL.nil ⟨rfl, rfl, ?_⟩
          apply X7 [⟨6, 4, _, [0, 5], false⟩, ⟨7, 5, _, [0, 1, 2, 3, 4, 5, 6], false⟩] 8 (by kernel_rfl) (.inl ⟨_, by repeat' constructor⟩) rfl rfl
          ·refine Qp 6 [0, 5] rfl rfl rfl rfl (by kernel_rfl) rfl ?_ ?_
           ·exact Qe rfl rfl (Qm rfl)
           refine Qp 7 [0, 1, 2, 3, 4, 5, 6] rfl rfl rfl rfl (by kernel_rfl) rfl ?_ ?_
           ·exact Qe rfl rfl (Qm rfl)
           exact AllF.nil
          ·refine Qi ?_
           apply RetQ.mk
           ·exact (QB rfl rfl rfl)
           ·have hrl := Y6 (K := K) (W := W) hw (hb2l.trans hst)
            exact ⟨b2, 0, (rows + 1), 0, e, (Yw K W (Qg M) b2), a3, c3, by subst hb2; unfold Xj; dsimp only; rw [if_neg (show ¬ (0 : Int) ≠ 0 by omega), if_neg (fun h => hm (by have := h.2.1; rcases hw with e | e <;> rw [e] at this ⊢ <;> omega)), if_neg (by omega), if_neg (by omega)], by rw [hrl], by rw [hrl], fun hr => (by rw [hr] at hrl; simp at hrl; omega)⟩
           ·exact Ent.refl _

set_option maxHeartbeats 1000000 in
theorem RawPut_c (K : Int) (W : Nat) (H M : Int) (hR : RawH K (W : Int) H M) (g : Nat) (a1 : Option Addr) (c1 : Nat) (bs : List Int) (hbs : ∀ x ∈ bs, 0 ≤ x ∧ x ≤ 255) (hbl : bs.length ≤ 100000) (n : Nat) (rows last e : Int) (hst : bs.length = QF K W (Qg M)) (hbc : bs.length ≤ c1) (hn : n < bs.length) (hro : 0 ≤ rows ∧ rows ≤ 100000) (c : Int) (hc0 : 0 ≤ c) (hc1 : c ≤ 255) (h4 : K ≠ 4) (hm : ((n : Int) + 1) % ((Qg M : Nat) : Int) = 0) : Fn Tryz.prog 125 #[.pointer (some ⟨g, 0, none⟩), .int .u8 c] [QA g [.int .i64 K, .int .i64 (W : Int), .int .i64 H, .int .i64 M, .slice a1 bs.length c1, .int .i64 (n : Int), .int .i64 rows, .int .i64 last, .int .i64 e] 198, QG 5 1 a1 c1 bs.length (Xr bs)] (fun v l => ∃ b' n' rows' last' e' out a3 c3, ((⟨b', n', rows', last', e'⟩ : RW), out) = Xj K W H M ⟨bs, n, rows, last, e⟩ c ∧ v = .tuple #[.slice a3 out.length c3, .int .i64 last'] ∧ l = [QA g [.int .i64 K, .int .i64 (W : Int), .int .i64 H, .int .i64 M, .slice a1 b'.length c1, .int .i64 (n' : Int), .int .i64 rows', .int .i64 last', .int .i64 e'] 198, QG 5 1 a1 c1 b'.length (Xr b'), QG 92 1 a3 c3 out.length (Xp out)] ∧ (out = [] → a3 = none)) := by
 have hb := hR.bd
 have hch := Y0 K
 have hw := Q2 M
 have hsb := XU (K := K) (W := W) hw (by omega) (by omega)
 have hqd : 0 ≤ ((n : Int) + 1) / ((Qg M : Nat) : Int) ∧ ((n : Int) + 1) / ((Qg M : Nat) : Int) ≤ (n : Int) + 1 := by rcases hw with e | e <;> rw [e] <;> omega
 have hI : ((n : Int) + 1) / ((Qg M : Nat) : Int) - 1 = (((n + 1) / Qg M - 1 : Nat) : Int) := by rcases hw with e | e <;> rw [e] at hm ⊢ <;> omega
 have hIw : ((n + 1) / Qg M - 1 + 1) * Qg M ≤ bs.length := by rcases hw with e | e <;> rw [e] at hm ⊢ <;> omega
 have hmN : (n + 1) % Qg M = 0 := by rcases hw with e | e <;> rw [e] at hm ⊢ <;> omega
 refine Qk (vs := [.pointer (some ⟨g, 0, none⟩), .int .u8 c]) Tryz.func125 rfl Tryz.ntmps125 rfl ?_
 refine Qb (Qa (Qe rfl rfl (Qe rfl rfl (WpL.nil (Qb (Qb (Qa (Qc rfl rfl (Qq rfl rfl (Qj (o2 := 7) rfl rfl rfl (Qo rfl rfl (by rfl) ?_)))))))))))
 refine Xn rfl rfl rfl (WpL.nil (Ql rfl (fun h0 => ?_) (fun h0 => ?_)))
 ·refine Qb ?_
  apply Q0 mixed [⟨12, _, []⟩, ⟨13, _, [0]⟩, ⟨14, _, [1]⟩, ⟨15, _, [2]⟩, ⟨4, _, []⟩, ⟨5, _, [3, 4, 0, 1, 2]⟩] rfl
  ·refine AllObs.mk ?_ ?_
   ·exact Qc rfl rfl (Qm rfl)
   refine AllObs.mk ?_ ?_
   ·exact Qq rfl rfl (Qm rfl)
   refine AllObs.mk ?_ ?_
   ·exact Qj (o2 := 7) rfl rfl rfl (Qm rfl)
   refine AllObs.mk ?_ ?_
   ·refine Qo rfl rfl (by rfl) ?_
    exact Qm rfl
   refine AllObs.mk ?_ ?_
   ·exact Qe rfl rfl (Qm rfl)
   refine AllObs.mk ?_ ?_
   ·exact Qe rfl rfl (Qm rfl)
   exact AllObs.nil
  ·refine Qi ?_
   apply RetQ.mk
   ·exact (QB rfl rfl rfl)
   ·exact ⟨bs, n, rows, last, e, [], none, 0, by unfold Xj; dsimp only; rw [if_pos h0], rfl, rfl, fun _ => rfl⟩
   ·exact (Ent.own_nil (T := 92) (s := 1) (Ent.refl _)).trans (Take.ent' (by repeat' constructor))
 ·have hl0 : last = 0 := Classical.not_not.1 h0
  subst hl0
  refine Wp.skip (Qb ?_)
  apply Xs (fB := []) mixed [(10, false)] (by kernel_rfl)
  apply Xk [⟨0, 16, _, [], false⟩, ⟨1, 17, _, [0], false⟩, ⟨2, 18, _, [1], false⟩, ⟨3, 19, _, [2], false⟩, ⟨4, 20, _, [], false⟩, ⟨5, 21, _, [4], false⟩, ⟨6, 22, _, [5], false⟩, ⟨7, 23, _, [6], false⟩, ⟨8, 24, _, [], false⟩, ⟨9, 25, _, [0, 1, 2, 3, 4, 5, 6, 7, 8], false⟩] [] [0, 1, 2, 3, 4, 5, 6, 7, 8, 9] [] (.inr rfl) rfl rfl rfl (by kernel_rfl) rfl rfl rfl
  ·refine AllF.cons rfl rfl rfl rfl ?_ ?_
   ·exact Qc rfl rfl (Qm rfl)
   refine AllF.cons rfl rfl rfl rfl ?_ ?_
   ·exact Qq rfl rfl (Qm rfl)
   refine AllF.cons rfl rfl rfl rfl ?_ ?_
   ·exact Qj (o2 := 4) rfl rfl rfl (Qm rfl)
   refine AllF.cons rfl rfl rfl rfl ?_ ?_
   ·refine Qo rfl rfl (by rfl) ?_
    exact Qm rfl
   refine AllF.cons rfl rfl rfl rfl ?_ ?_
   ·exact Qc rfl rfl (Qm rfl)
   refine AllF.cons rfl rfl rfl rfl ?_ ?_
   ·exact Qq rfl rfl (Qm rfl)
   refine AllF.cons rfl rfl rfl rfl ?_ ?_
   ·exact Qj (o2 := 5) rfl rfl rfl (Qm rfl)
   refine AllF.cons rfl rfl rfl rfl ?_ ?_
   ·refine Qo rfl rfl (by rfl) ?_
    exact Qm rfl
   refine AllF.cons rfl rfl rfl rfl ?_ ?_
   ·exact Qc rfl rfl (Qm rfl)
   refine AllF.cons rfl rfl rfl rfl ?_ ?_
   ·refine Q4 n rfl rfl rfl QE (by exact Take.ent' (by repeat' constructor)) rfl (by omega) (by rw [Xa]; omega) ?_
    exact Qm rfl
   exact AllF.nil
  ·refine s_sto rfl rfl rfl (by repeat' constructor) (by rw [Xa]; omega) ?_
   refine WpL.nil ⟨rfl, rfl, ?_⟩
   apply GoR.nil [] (.inr rfl) rfl rfl
   ·exact AllF.nil
   ·refine QO (gr := [(0, _)]) (FrLe.cons rfl FrLe.nil) ?_
    refine Qb (Qa ?_)
    rw [u8s_set]
    obtain ⟨b2, hb2⟩ : ∃ b2, b2 = bs.set n c := ⟨_, rfl⟩
    have hb2l : b2.length = bs.length := by rw [hb2, List.length_set]
    have hb2s : ∀ x ∈ b2, 0 ≤ x ∧ x ≤ 255 := by rw [hb2]; exact set_bd hbs hc0 hc1
    rw [← hb2, ← hb2l]
    refine Qc rfl rfl (Qq rfl rfl (Qj (o2 := 5) rfl rfl rfl (Qo rfl rfl (by rfl) ?_)))
    refine QD rfl rfl rfl (Qu (by omega) (by omega)) ?_
    refine Qq rfl rfl (Qj (o2 := 5) rfl rfl rfl (Q3 rfl rfl rfl (WpL.nil (Qb (Qb (Qa (Qc rfl rfl (Qq rfl rfl (Qj (o2 := 0) rfl rfl rfl ?_)))))))))
    refine QI (vs := [_, _, _, _]) rfl rfl rfl (by rfl) ?_
    refine Qh rfl rfl (by repeat' constructor) (YW _ _ _ _) ?_
    rintro _ _ ⟨rfl, rfl⟩
    simp only [Qr]
    refine Qe rfl rfl (WpL.nil (QO (gr := [(0, _), (6, _)]) (FrLe.cons rfl (FrLe.cons rfl FrLe.nil)) ?_))
    refine Qb ?_
    apply Q0 mixed [⟨38, _, []⟩, ⟨39, _, [0]⟩, ⟨40, _, [1]⟩, ⟨41, _, [2]⟩, ⟨42, _, [3]⟩, ⟨43, _, [4]⟩, ⟨44, _, [5]⟩, ⟨45, _, [6]⟩, ⟨46, _, [7, 6]⟩, ⟨47, _, [8, 6]⟩, ⟨48, _, [9, 6]⟩, ⟨49, _, [6]⟩, ⟨50, _, [10, 11, 6]⟩, ⟨51, _, [12, 6]⟩, ⟨52, _, [6, 13]⟩, ⟨53, _, [14, 6]⟩, ⟨54, _, [15]⟩, ⟨55, _, [15]⟩, ⟨56, _, [17, 15]⟩, ⟨57, _, [18, 15]⟩, ⟨58, _, [19, 15]⟩, ⟨59, _, [15]⟩, ⟨60, _, [20, 21, 15]⟩, ⟨61, _, [22, 15]⟩, ⟨62, _, [16, 23, 15]⟩, ⟨63, _, [15]⟩, ⟨64, _, [25, 15]⟩, ⟨65, _, [26, 15]⟩, ⟨66, _, [27, 15]⟩, ⟨67, _, [28, 15]⟩, ⟨68, _, [24, 29, 15]⟩, ⟨69, _, [15, 30]⟩] rfl
    ·refine AllObs.mk ?_ ?_
     ·exact Qc rfl rfl (Qm rfl)
     refine AllObs.mk ?_ ?_
     ·exact Qq rfl rfl (Qm rfl)
     refine AllObs.mk ?_ ?_
     ·exact Qj (o2 := 0) rfl rfl rfl (Qm rfl)
     refine AllObs.mk ?_ ?_
     ·exact Qj (o2 := 0) rfl rfl rfl (Qm rfl)
     refine AllObs.mk ?_ ?_
     ·refine Qo rfl rfl (by rfl) ?_
      exact Qm rfl
     refine AllObs.mk ?_ ?_
     ·exact Xn rfl rfl rfl (Qm rfl)
     refine AllObs.mk ?_ ?_
     ·exact Qc rfl rfl (Qm rfl)
     refine AllObs.mk ?_ ?_
     ·refine Qx (dj := 44) rfl (decide_eq_true h4) ?_
      exact Qf rfl rfl (Qc rfl rfl (Qm rfl))
     refine AllObs.mk ?_ ?_
     ·refine Qx (dj := 44) rfl (decide_eq_true h4) ?_
      exact Qf rfl rfl (Qq rfl rfl (Qm rfl))
     refine AllObs.mk ?_ ?_
     ·refine Qx (dj := 44) rfl (decide_eq_true h4) ?_
      exact Qf rfl rfl (Qj (o2 := 5) rfl rfl rfl (Qm rfl))
     refine AllObs.mk ?_ ?_
     ·refine Qx (dj := 44) rfl (decide_eq_true h4) ?_
      refine Qf rfl rfl (Qo rfl rfl (by rfl) ?_)
      exact Qm rfl
     refine AllObs.mk ?_ ?_
     ·refine Qx (dj := 44) rfl (decide_eq_true h4) ?_
      exact Qf rfl rfl (Qc rfl rfl (Qm rfl))
     refine AllObs.mk ?_ ?_
     ·refine Qx (dj := 44) rfl (decide_eq_true h4) ?_
      refine Qf rfl rfl (YV rfl rfl rfl (by omega) (by omega) ?_)
      exact Qm rfl
     refine AllObs.mk ?_ ?_
     ·refine Qx (dj := 44) rfl (decide_eq_true h4) ?_
      exact Qf rfl rfl (QN rfl rfl rfl (Qm rfl))
     refine AllObs.mk ?_ ?_
     ·refine Qx (dj := 44) rfl (decide_eq_true h4) ?_
      exact Qt rfl rfl rfl (Qm rfl)
     refine AllObs.mk ?_ ?_
     ·exact Qc rfl rfl (Qm rfl)
     refine AllObs.mk ?_ ?_
     ·refine Qx (dj := 53) rfl (decide_eq_true hm) ?_
      exact Qf rfl rfl (Qc rfl rfl (Qm rfl))
     refine AllObs.mk ?_ ?_
     ·refine Qx (dj := 53) rfl (decide_eq_true hm) ?_
      exact Qf rfl rfl (Qc rfl rfl (Qm rfl))
     refine AllObs.mk ?_ ?_
     ·refine Qx (dj := 53) rfl (decide_eq_true hm) ?_
      exact Qf rfl rfl (Qq rfl rfl (Qm rfl))
     refine AllObs.mk ?_ ?_
     ·refine Qx (dj := 53) rfl (decide_eq_true hm) ?_
      exact Qf rfl rfl (Qj (o2 := 5) rfl rfl rfl (Qm rfl))
     refine AllObs.mk ?_ ?_
     ·refine Qx (dj := 53) rfl (decide_eq_true hm) ?_
      refine Qf rfl rfl (Qo rfl rfl (by rfl) ?_)
      exact Qm rfl
     refine AllObs.mk ?_ ?_
     ·refine Qx (dj := 53) rfl (decide_eq_true hm) ?_
      exact Qf rfl rfl (Qc rfl rfl (Qm rfl))
     refine AllObs.mk ?_ ?_
     ·refine Qx (dj := 53) rfl (decide_eq_true hm) ?_
      refine Qf rfl rfl (ZG rfl rfl rfl (by omega) (by omega) (Qu (by omega) (by omega)) ?_)
      exact Qm rfl
     refine AllObs.mk ?_ ?_
     ·refine Qx (dj := 53) rfl (decide_eq_true hm) ?_
      refine Qf rfl rfl (ZQ rfl rfl rfl (Qu (by omega) (by omega)) ?_)
      rw [hI]
      exact Qm rfl
     refine AllObs.mk ?_ ?_
     ·refine Qx (dj := 53) rfl (decide_eq_true hm) ?_
      refine Qf rfl rfl (Qh rfl rfl (by repeat' constructor) (RawSample_spec _ _ _ _ hR _ _ _ _ hb2s (by omega) _ _ _ _ _ (by rw [hb2l]; exact hIw)) ?_)
      rintro _ _ ⟨rfl, rfl⟩
      simp only [Qr]
      exact WpL.nil ⟨rfl, rfl, rfl, by exact Take.ent' (by repeat' constructor)⟩
     refine AllObs.mk ?_ ?_
     ·refine Qx (dj := 53) rfl (decide_eq_true hm) ?_
      exact Qf rfl rfl (Qc rfl rfl (Qm rfl))
     refine AllObs.mk ?_ ?_
     ·refine Qx (dj := 53) rfl (decide_eq_true hm) ?_
      exact Qf rfl rfl (Qq rfl rfl (Qm rfl))
     refine AllObs.mk ?_ ?_
     ·refine Qx (dj := 53) rfl (decide_eq_true hm) ?_
      exact Qf rfl rfl (Qj (o2 := 0) rfl rfl rfl (Qm rfl))
     refine AllObs.mk ?_ ?_
     ·refine Qx (dj := 53) rfl (decide_eq_true hm) ?_
      exact Qf rfl rfl (Qj (o2 := 3) rfl rfl rfl (Qm rfl))
     refine AllObs.mk ?_ ?_
     ·refine Qx (dj := 53) rfl (decide_eq_true hm) ?_
      refine Qf rfl rfl (Qo rfl rfl (by rfl) ?_)
      exact Qm rfl
     refine AllObs.mk ?_ ?_
     ·refine Qx (dj := 53) rfl (decide_eq_true hm) ?_
      exact Qf rfl rfl (Zm rfl rfl rfl (Qm rfl))
     refine AllObs.mk ?_ ?_
     ·refine Qx (dj := 53) rfl (decide_eq_true hm) ?_
      exact Qt rfl rfl rfl (Qm rfl)
     exact AllObs.nil
    ·refine QO (gr := [(0, _), (69, _)]) (FrLe.cons rfl (FrLe.cons rfl FrLe.nil)) ?_
     refine Ql rfl (fun hbig => ?_) (fun hbig => ?_)
     ·refine Qb (Qa (Qc rfl rfl (Qc rfl rfl (Qq rfl rfl (Qj (o2 := 8) rfl rfl rfl (Q3 rfl rfl rfl (Qq rfl rfl (Qj (o2 := 7) rfl rfl rfl (Q3 rfl rfl rfl (WpL.nil (Qb ?_)))))))))))
      apply Q0 mixed [⟨76, _, []⟩, ⟨77, _, [0]⟩, ⟨78, _, [1]⟩, ⟨79, _, [2]⟩, ⟨4, _, []⟩, ⟨5, _, [3, 4, 0, 1, 2]⟩] rfl
      ·refine AllObs.mk ?_ ?_
       ·exact Qc rfl rfl (Qm rfl)
       refine AllObs.mk ?_ ?_
       ·exact Qq rfl rfl (Qm rfl)
       refine AllObs.mk ?_ ?_
       ·exact Qj (o2 := 7) rfl rfl rfl (Qm rfl)
       refine AllObs.mk ?_ ?_
       ·refine Qo rfl rfl (by rfl) ?_
        exact Qm rfl
       refine AllObs.mk ?_ ?_
       ·exact Qe rfl rfl (Qm rfl)
       refine AllObs.mk ?_ ?_
       ·exact Qe rfl rfl (Qm rfl)
       exact AllObs.nil
      ·refine Qi ?_
       rw [show (n : Int) + 1 = ((n + 1 : Nat) : Int) from rfl]
       apply RetQ.mk
       ·exact (QB rfl rfl rfl)
       ·exact ⟨b2, n + 1, rows, 2, 5, [], none, 0, by subst hb2; unfold Xj; dsimp only; rw [if_neg (show ¬ (0 : Int) ≠ 0 by omega), if_pos ⟨h4, hmN, hbig⟩], rfl, rfl, fun _ => rfl⟩
       ·exact (Ent.own_nil (T := 92) (s := 1) (Ent.refl _)).trans (Take.ent' (by repeat' constructor))
     ·refine Wp.skip (Qb (Qb ?_))
      apply Q0 mixed [⟨80, _, []⟩, ⟨81, _, [0]⟩, ⟨82, _, [1]⟩, ⟨83, _, [2]⟩, ⟨84, _, []⟩, ⟨85, _, [4]⟩, ⟨86, _, [5]⟩, ⟨87, _, [6]⟩, ⟨88, _, [7]⟩, ⟨89, _, [3, 8]⟩] rfl
      ·refine AllObs.mk ?_ ?_
       ·exact Qc rfl rfl (Qm rfl)
       refine AllObs.mk ?_ ?_
       ·exact Qq rfl rfl (Qm rfl)
       refine AllObs.mk ?_ ?_
       ·exact Qj (o2 := 5) rfl rfl rfl (Qm rfl)
       refine AllObs.mk ?_ ?_
       ·refine Qo rfl rfl (by rfl) ?_
        exact Qm rfl
       refine AllObs.mk ?_ ?_
       ·exact Qc rfl rfl (Qm rfl)
       refine AllObs.mk ?_ ?_
       ·exact Qq rfl rfl (Qm rfl)
       refine AllObs.mk ?_ ?_
       ·exact Qj (o2 := 4) rfl rfl rfl (Qm rfl)
       refine AllObs.mk ?_ ?_
       ·refine Qo rfl rfl (by rfl) ?_
        exact Qm rfl
       refine AllObs.mk ?_ ?_
       ·exact QC rfl rfl (WpL.nil ⟨rfl, rfl, rfl, by exact Ent.refl _⟩)
       refine AllObs.mk ?_ ?_
       ·exact Q7 rfl rfl rfl (Qm rfl)
       exact AllObs.nil
      ·refine QO (gr := [(0, _), (89, _)]) (FrLe.cons rfl (FrLe.cons rfl FrLe.nil)) ?_
       refine Ql rfl (fun h2 => ?_) (fun h2 => ?_)
       ·refine Qb (Qa (Qe rfl rfl (Qe rfl rfl (WpL.nil (Qi ?_)))))
        rw [show (n : Int) + 1 = ((n + 1 : Nat) : Int) from rfl]
        apply RetQ.mk
        ·exact (QB rfl rfl rfl)
        ·exact ⟨b2, n + 1, rows, 0, e, [], none, 0, by subst hb2; unfold Xj; dsimp only; rw [if_neg (show ¬ (0 : Int) ≠ 0 by omega), if_neg (fun h => hbig h.2.2), if_pos (by have := hb2l; omega)], rfl, rfl, fun _ => rfl⟩
        ·exact (Ent.own_nil (T := 92) (s := 1) (Ent.refl _)).trans (Take.ent' (by repeat' constructor))
       ·have hlen : ¬ n + 1 < bs.length := by omega
        refine Wp.skip (Qb (Qa (Qc rfl rfl (Qq rfl rfl (Qj (o2 := 5) rfl rfl rfl (Q3 rfl rfl rfl (WpL.nil (Qb (Qa (Qc rfl rfl (Qq rfl rfl (Qj (o2 := 6) rfl rfl rfl ?_))))))))))))
        refine Qo rfl rfl (by rfl) ?_
        refine QD rfl rfl rfl (Qu (by omega) (by omega)) ?_
        refine Qq rfl rfl (Qj (o2 := 6) rfl rfl rfl (Q3 rfl rfl rfl (WpL.nil (QO (gr := [(0, _)]) (FrLe.cons rfl FrLe.nil) ?_))))
        refine Qb (Qb ?_)
        apply Q0 mixed [⟨100, _, []⟩, ⟨101, _, [0]⟩, ⟨102, _, [1]⟩, ⟨103, _, [2]⟩, ⟨104, _, []⟩, ⟨105, _, [4]⟩, ⟨106, _, [5]⟩, ⟨107, _, [6]⟩, ⟨108, _, [7]⟩, ⟨109, _, [3, 8]⟩] rfl
        ·refine AllObs.mk ?_ ?_
         ·exact Qc rfl rfl (Qm rfl)
         refine AllObs.mk ?_ ?_
         ·exact Qq rfl rfl (Qm rfl)
         refine AllObs.mk ?_ ?_
         ·exact Qj (o2 := 6) rfl rfl rfl (Qm rfl)
         refine AllObs.mk ?_ ?_
         ·refine Qo rfl rfl (by rfl) ?_
          exact Qm rfl
         refine AllObs.mk ?_ ?_
         ·exact Qc rfl rfl (Qm rfl)
         refine AllObs.mk ?_ ?_
         ·exact Qq rfl rfl (Qm rfl)
         refine AllObs.mk ?_ ?_
         ·exact Qj (o2 := 0) rfl rfl rfl (Qm rfl)
         refine AllObs.mk ?_ ?_
         ·exact Qj (o2 := 2) rfl rfl rfl (Qm rfl)
         refine AllObs.mk ?_ ?_
         ·refine Qo rfl rfl (by rfl) ?_
          exact Qm rfl
         refine AllObs.mk ?_ ?_
         ·exact QN rfl rfl rfl (Qm rfl)
         exact AllObs.nil
        ·refine QO (gr := [(0, _), (109, _)]) (FrLe.cons rfl (FrLe.cons rfl FrLe.nil)) ?_
         refine Ql rfl (fun h3 => ?_) (fun h3 => ?_)
         ·refine Qa (Qc rfl rfl (Qq rfl rfl (Qj (o2 := 7) rfl rfl rfl (Q3 rfl rfl rfl (WpL.nil (Qb ?_))))))
          apply X8 (fB := [QA g [.int .i64 K, .int .i64 (W : Int), .int .i64 H, .int .i64 M, .slice a1 b2.length c1, .int .i64 0, .int .i64 (rows + 1), .int .i64 1, .int .i64 e] 198]) [0, 2, 3, 4, 5, 1, 6, 7] [113, 115, 116, 117, 118, 114, 4, 5] 8 mixed (by kernel_rfl) [(5, false)] (by kernel_rfl) (by kernel_rfl) (by kernel_rfl)
          apply Xe [⟨0, 113, _, [], false⟩, ⟨1, 115, _, [], true⟩, ⟨2, 116, _, [1], true⟩, ⟨3, 117, _, [2], true⟩, ⟨4, 118, _, [3], true⟩] [] [0] [4, 5] [4, 5, 115, 116, 117, 118] (.inl ⟨_, by repeat' constructor⟩) rfl rfl rfl (by kernel_rfl) rfl (by kernel_rfl) rfl rfl
          ·refine Qp 0 [] rfl rfl rfl rfl (by kernel_rfl) rfl ?_ ?_
           ·exact Qc rfl rfl (Qm rfl)
           refine Qw 1 [] rfl rfl rfl rfl (by kernel_rfl) rfl ?_ ?_
           ·exact Qc rfl rfl (Qm rfl)
           refine Qw 2 [1] rfl rfl rfl rfl (by kernel_rfl) rfl ?_ ?_
           ·exact Qq rfl rfl (Qm rfl)
           refine Qw 3 [2] rfl rfl rfl rfl (by kernel_rfl) rfl ?_ ?_
           ·exact Qj (o2 := 7) rfl rfl rfl (Qm rfl)
           refine Qw 4 [3] rfl rfl rfl rfl (by kernel_rfl) rfl ?_ ?_
           ·refine Qo rfl rfl (by rfl) ?_
            exact Qm rfl
           exact AllF.nil
          ·refine Qh rfl rfl (by repeat' constructor) (YQ _ _ _ _ hR _ _ _ _ hb2s (by omega) _ _ _ _ (by rw [hb2l]; exact hst) (by rw [hb2l]; exact hbc)) ?_
           rintro _ _ ⟨a3, c3, rfl, rfl⟩
           simp only [Qr]
           refine WpL.nil ⟨rfl, rfl, ?_⟩
           apply X7 [⟨6, 4, _, [0, 5], false⟩, ⟨7, 5, _, [0, 1, 2, 3, 4, 5, 6], false⟩] 8 (by kernel_rfl) (.inl ⟨_, by repeat' constructor⟩) rfl rfl
           ·refine Qp 6 [0, 5] rfl rfl rfl rfl (by kernel_rfl) rfl ?_ ?_
            ·exact Qe rfl rfl (Qm rfl)
            refine Qp 7 [0, 1, 2, 3, 4, 5, 6] rfl rfl rfl rfl (by kernel_rfl) rfl ?_ ?_
            ·exact Qe rfl rfl (Qm rfl)
            exact AllF.nil
           ·refine Qi ?_
            apply RetQ.mk
            ·exact (QB rfl rfl rfl)
            ·have hrl := Y6 (K := K) (W := W) hw (hb2l.trans hst)
             exact ⟨b2, 0, (rows + 1), 1, e, (Yw K W (Qg M) b2), a3, c3, by subst hb2; unfold Xj; dsimp only; rw [if_neg (show ¬ (0 : Int) ≠ 0 by omega), if_neg (fun h => hbig h.2.2), if_neg (by omega), if_pos (by omega)], by rw [hrl], by rw [hrl], fun hr => (by rw [hr] at hrl; simp at hrl; omega)⟩
            ·exact Ent.refl _
         ·refine Wp.skip (Qb ?_)
          apply X8 (fB := [QA g [.int .i64 K, .int .i64 (W : Int), .int .i64 H, .int .i64 M, .slice a1 b2.length c1, .int .i64 0, .int .i64 (rows + 1), .int .i64 0, .int .i64 e] 198]) [0, 2, 3, 4, 5, 1, 6, 7] [113, 115, 116, 117, 118, 114, 4, 5] 8 mixed (by kernel_rfl) [(5, false)] (by kernel_rfl) (by kernel_rfl) (by kernel_rfl)
          apply Xe [⟨0, 113, _, [], false⟩, ⟨1, 115, _, [], true⟩, ⟨2, 116, _, [1], true⟩, ⟨3, 117, _, [2], true⟩, ⟨4, 118, _, [3], true⟩] [] [0] [4, 5] [4, 5, 115, 116, 117, 118] (.inl ⟨_, by repeat' constructor⟩) rfl rfl rfl (by kernel_rfl) rfl (by kernel_rfl) rfl rfl
          ·refine Qp 0 [] rfl rfl rfl rfl (by kernel_rfl) rfl ?_ ?_
           ·exact Qc rfl rfl (Qm rfl)
           refine Qw 1 [] rfl rfl rfl rfl (by kernel_rfl) rfl ?_ ?_
           ·exact Qc rfl rfl (Qm rfl)
           refine Qw 2 [1] rfl rfl rfl rfl (by kernel_rfl) rfl ?_ ?_
           ·exact Qq rfl rfl (Qm rfl)
           refine Qw 3 [2] rfl rfl rfl rfl (by kernel_rfl) rfl ?_ ?_
           ·exact Qj (o2 := 7) rfl rfl rfl (Qm rfl)
           refine Qw 4 [3] rfl rfl rfl rfl (by kernel_rfl) rfl ?_ ?_
           ·refine Qo rfl rfl (by rfl) ?_
            exact Qm rfl
           exact AllF.nil
          ·refine Qh rfl rfl (by repeat' constructor) (YQ _ _ _ _ hR _ _ _ _ hb2s (by omega) _ _ _ _ (by rw [hb2l]; exact hst) (by rw [hb2l]; exact hbc)) ?_
           rintro _ _ ⟨a3, c3, rfl, rfl⟩
           simp only [Qr]
           refine WpL.nil ⟨rfl, rfl, ?_⟩
           apply X7 [⟨6, 4, _, [0, 5], false⟩, ⟨7, 5, _, [0, 1, 2, 3, 4, 5, 6], false⟩] 8 (by kernel_rfl) (.inl ⟨_, by repeat' constructor⟩) rfl rfl
           ·refine Qp 6 [0, 5] rfl rfl rfl rfl (by kernel_rfl) rfl ?_ ?_
            ·exact Qe rfl rfl (Qm rfl)
            refine Qp 7 [0, 1, 2, 3, 4, 5, 6] rfl rfl rfl rfl (by kernel_rfl) rfl ?_ ?_
            ·exact Qe rfl rfl (Qm rfl)
            exact AllF.nil
           ·refine Qi ?_
            apply RetQ.mk
            ·exact (QB rfl rfl rfl)
            ·have hrl := Y6 (K := K) (W := W) hw (hb2l.trans hst)
             exact ⟨b2, 0, (rows + 1), 0, e, (Yw K W (Qg M) b2), a3, c3, by subst hb2; unfold Xj; dsimp only; rw [if_neg (show ¬ (0 : Int) ≠ 0 by omega), if_neg (fun h => hbig h.2.2), if_neg (by omega), if_neg (by omega)], by rw [hrl], by rw [hrl], fun hr => (by rw [hr] at hrl; simp at hrl; omega)⟩
            ·exact Ent.refl _

end Go.Proofs.YtggamdlpiejbiaaGreat
