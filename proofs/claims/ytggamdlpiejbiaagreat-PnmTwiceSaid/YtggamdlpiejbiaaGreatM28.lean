/- Walks and plain laws, a part of the proof of PnmTwice: every input that the law's guards let in, no condition beside. -/
import Derived.Laws.StructEq
import Derived.ChangeKeysEq
import Derived.Test.YtggamdlpiejbiaaGreatM27
namespace Go.Proofs.YtggamdlpiejbiaaGreat
open Go.RowKit Go.Shelf


theorem fit_can {p C M : Int} (hf : FmtP C M) (h : Can C M p) : FitP p C M := ⟨hf, h.1, fun n hn => (h.2.2 n hn).2⟩
theorem kinds_mem {C M k : Int} (h : k ∈ Xi C M) : FmtP C M ∧ (1 ≤ k ∧ k ≤ 6) ∧ QT k = C ∧ ((k = 1 ∨ k = 4) → M = 1) := by
  unfold Xi at h
  split at h
  · rename_i hf
    obtain ⟨i, hi, rfl⟩ := List.mem_map.1 h
    obtain ⟨h1, h2⟩ := List.mem_filter.1 hi
    unfold kP at h2
    simp only [Bool.and_eq_true, decide_eq_true_eq] at h2
    have h3 := List.mem_range.1 h1
    refine ⟨hf, by omega, ?_, by omega⟩
    have := hf.1
    unfold QT
    split <;> omega
  · simp at h
theorem good_sz {most : Int} {m : Img} (hmo : most ≤ 100) (h : ZK most m) : (0 ≤ m.w * m.h ∧ m.w * m.h ≤ 10000) ∧ m.px.length ≤ 10000 := by
  obtain ⟨_, _, hw, hh, hl, _⟩ := h
  have h1 : m.w * m.h ≤ 100 * 100 := Int.mul_le_mul (by omega) (by omega) (by omega) (by omega)
  have h2 : 0 ≤ m.w * m.h := Int.mul_nonneg (by omega) (by omega)
  omega
theorem good_fits {most : Int} {m : Img} {k : Int} (hmo : most ≤ 100) (h : ZK most m) (hk : k ∈ Xi m.c m.m) : XN k m.w m.h m.m ∧ (∀ p ∈ m.px, FitP p (QT k) m.m) ∧ FitsM m.c m.m m.w m.h m.px := by
  obtain ⟨hf, hk6, hc, h1⟩ := kinds_mem hk
  have hz := good_sz hmo h
  obtain ⟨_, hm, hw, hh, hl, hp⟩ := h
  refine ⟨⟨hk6, by omega, by omega, hm, h1⟩, fun p hpp => by rw [hc]; exact fit_can hf (hp p hpp).1, ⟨by omega, by omega, by omega⟩, hl, fun p hpp => fit_can hf (hp p hpp).1⟩
/-- An image's bytes. -/
def wrI (m : Img) (k : Int) : List Int := hdW k m.w m.h m.m ++ (if k < 4 then wrL k m.w 0 m.px else YP k m.w.toNat (Qi m.m) m.px m.h.toNat)
theorem hdW_len {K W H M : Int} (hK : K ≤ 6) (hW : W ≤ 100) (hH : H ≤ 100) (hM : M ≤ 65535) : (hdW K W H M).length ≤ 100000 := by
  have h1 := Zh K.toNat
  have h2 := Zh W.toNat
  have h3 := Zh H.toNat
  have h4 := Zh M.toNat
  unfold hdW
  simp only [List.length_append, List.length_cons, List.length_nil]
  split <;> simp only [List.length_append, List.length_cons, List.length_nil] <;> omega

theorem rWrite10_spec (A0 : HP) (m : Img) (a : Option Addr) (c : Nat) (hA : RdsL [A0] a (XG m.px)) (most : Int) (hmo : most ≤ 100) (hg : ZK most m) (k : Int) (hk : k ∈ Xi m.c m.m) : Fn Tryz.prog 34 #[.agg #[.int .i64 m.c, .int .i64 m.m, .int .i64 m.w, .int .i64 m.h, .slice a m.px.length c], .int .i64 k] [A0] (fun v l => ∃ B b e, RdsL [B] b (XY (wrI m k)) ∧ v = .tuple #[.slice b (wrI m k).length e, .int .i64 0] ∧ l = [B, A0]) := by
 obtain ⟨hMay, hfit, hfm⟩ := good_fits hmo hg hk
 obtain ⟨hz1, hz2⟩ := good_sz hmo hg
 have hb : ∀ p ∈ m.px, 0 ≤ p ∧ p < 18446744073709551616 := fun p hp => (hg.2.2.2.2.2 p hp).2
 have hM2 := hMay
 unfold XN at hM2
 obtain ⟨_, hg2, hgw, hgh, hgl, _⟩ := id hg
 have hWn : ((m.w.toNat : Nat) : Int) = m.w := by omega
 have hHn : ((m.h.toNat : Nat) : Int) = m.h := by omega
 have hz6 := hdW_len (K := k) (W := m.w) (H := m.h) (M := m.m) (by omega) (by omega) (by omega) (by omega)
 refine Qo (vs := [.agg #[.int .i64 m.c, .int .i64 m.m, .int .i64 m.w, .int .i64 m.h, .slice a m.px.length c], .int .i64 k]) Tryz.func34 rfl Tryz.ntmps34 rfl (Qb (Qa (Xf rfl rfl rfl ?_)))
 intro gI
 refine Qd rfl rfl (Qd rfl rfl (WpL.nil (Qb (Qa ?_))))
 refine Qz (vs := [_, _, _, _, _]) rfl rfl rfl (by rfl) ?_
 refine Qc rfl rfl (Qk rfl rfl (by repeat' constructor) (rTells_spec [A0] m.c m.m m.w m.h a c m.px hA hb (by omega) k) ?_)
 rintro _ _ ⟨rfl, rfl⟩
 simp only [Qv]
 refine Qd rfl rfl (WpL.nil (Qb (Qb (Qa (Qc rfl rfl (Yt rfl rfl (WpL.nil (Qh rfl (fun h0 => ?_) (fun h0 => ?_)))))))))
 ·exfalso; exact absurd ⟨hk, hfm⟩ h0
 ·refine Wp.skip (Qb (Qa (Qc rfl rfl (Qj (o2 := 2) rfl rfl rfl (Qj (o2 := 2) rfl rfl rfl (Qm rfl rfl (by rfl) ?_))))))
  refine Qj (o2 := 2) rfl rfl rfl (Qj (o2 := 3) rfl rfl rfl (Qm rfl rfl (by rfl) ?_))
  refine Qj (o2 := 0) rfl rfl rfl (Qj (o2 := 1) rfl rfl rfl (Qm rfl rfl (by rfl) ?_))
  refine Xl rfl rfl ?_
  refine X6 rfl ?_
  intro gH
  refine QE rfl rfl rfl (by rfl) rfl ?_
  refine WpL.nil (Qb (Qa ?_))
  refine Qz (vs := [_, _, _, _]) rfl rfl rfl (by rfl) ?_
  refine Qk rfl rfl (by repeat' constructor) (rWrite06_spec _ _ _ _ hMay) ?_
  rintro _ _ ⟨s6, hs6, rfl, rfl⟩
  simp only [Qv]
  have hs6z : s6.size ≤ 100000 := by rw [← Xa, hs6]; exact hz6
  refine Qc rfl rfl (QL rfl rfl rfl (QL rfl rfl rfl (Qd rfl rfl (Qd rfl rfl (WpL.nil (Qb (Qb (Qa (Qc rfl rfl (Xc rfl rfl rfl (WpL.nil (Qh rfl (fun h1 => ?_) (fun h1 => ?_)))))))))))))
  ·refine Qb (Qa (Qj (o2 := 2) rfl rfl rfl (Qj (o2 := 4) rfl rfl rfl (Qm rfl rfl (by rfl) ?_))))
   refine Qz (vs := [_, _, _, _]) rfl rfl rfl (by rfl) ?_
   refine Qk rfl rfl (by repeat' constructor) (rWrite_spec A0 a c m.px hA hb (by omega) k m.w m.h m.m) ?_
   rintro _ _ ⟨s8, e8, rfl, hs8, rfl⟩
   simp only [Qv]
   obtain ⟨_, rfl, hs8, hz8⟩ : WrP k m.w m.h m.m m.px ∧ e8 = 0 ∧ QZ s8 = wrL k m.w 0 m.px ∧ s8.size ≤ m.px.length * 300000 := by
    rcases hs8 with q | q
    ·exact q
    ·exact absurd (⟨⟨hMay, by omega⟩, hgl, hfit⟩ : WrP k m.w m.h m.m m.px) q.1
   refine Qc rfl rfl (QL rfl rfl rfl (QL rfl rfl rfl (Qd rfl rfl (Qd rfl rfl (WpL.nil (Qb (Qa (Qc rfl rfl (Qc rfl rfl (Zq rfl rfl rfl (by omega) ?_))))))))))
   refine s_t2b rfl Tryz.underlying9 Tryz.underlying22 Tryz.underlying5 rfl ?_
   intro gB cB
   rw [show QZ (s6 ++ s8) = wrI m k by rw [YA, hs6, hs8, wrI, if_pos (by omega)]]
   refine Qd rfl rfl (Qd rfl rfl (WpL.nil (Qg ?_)))
   apply RetQ.mk
   ·exact (QX rfl rfl rfl)
   ·exact ⟨rdo gB _, _, cB, RdsL.rdo, rfl, rfl⟩
   ·exact Take.ent' (by repeat' constructor)
  ·have hpl : m.px.length = m.w.toNat * m.h.toNat := by
    have q : ((m.w.toNat * m.h.toNat : Nat) : Int) = m.w * m.h := by rw [Int.natCast_mul, hWn, hHn]
    omega
   have hw9 := rWrite09_spec A0 a c m.px hA hb k m.w.toNat m.h.toNat m.m (by rw [hWn, hHn]; exact ⟨hMay, by omega⟩) hpl hfit (by omega)
   rw [hWn, hHn] at hw9
   have hwl := wrRaw_len (K := k) (w := Qi m.m) (Q7 m.m) hpl (fun p hp => by have := can_fit (hfit p hp); omega) m.h.toNat (Nat.le_refl _)
   have hsb := X1 (K := k) (W := m.w.toNat) (Q7 m.m) (by omega) (by omega)
   have hwl2 : (YP k m.w.toNat (Qi m.m) m.px m.h.toNat).length ≤ 24576 * 100 := by rw [hwl]; exact Nat.mul_le_mul hsb.2 (by omega)
   refine Wp.skip (Qb (Qa (Qj (o2 := 2) rfl rfl rfl (Qj (o2 := 4) rfl rfl rfl (Qm rfl rfl (by rfl) ?_)))))
   refine Qz (vs := [_, _, _, _]) rfl rfl rfl (by rfl) ?_
   refine Qk rfl rfl (by repeat' constructor) (hw9) ?_
   rintro _ _ ⟨a9, c9, rfl, rfl⟩
   simp only [Qv]
   refine Qc rfl rfl (QL rfl rfl rfl (QL rfl rfl rfl (Qd rfl rfl (Qd rfl rfl (WpL.nil (Qb (Qa (Qd rfl rfl (WpL.nil (Qb (Qa (Qc rfl rfl ?_))))))))))))
   refine Qc rfl rfl (s_t2b rfl Tryz.underlying9 Tryz.underlying22 Tryz.underlying5 rfl ?_)
   intro gB cB
   rw [hs6]
   refine WpL.ent (Ent.own_nil (T := 5) (s := 1) (Ent.refl _)) ?_
   refine s_appR (xs := []) (m2 := (hdW k m.w m.h m.m).length) rfl rfl rfl (by repeat' constructor) RdsL.rdo (by exact Take.ent' (by repeat' constructor)) (by rw [XP, Nat.mul_one]) (by rfl) (by rfl) (u8s_one _) (by omega) (by omega) ?_
   intro a61 c61
   rw [List.nil_append, Nat.zero_add]
   refine Qd rfl rfl (WpL.nil (Qb (Qa (Qc rfl rfl (Qc rfl rfl (s_appo rfl rfl rfl (by repeat' constructor) (by rfl) (by rfl) (u8s_one _) (by omega) (by omega) ?_))))))
   intro a64 c64
   rw [u8s_app, ← List.length_append, show hdW k m.w m.h m.m ++ YP k m.w.toNat (Qi m.m) m.px m.h.toNat = wrI m k by rw [wrI, if_neg (by omega)]]
   refine Qd rfl rfl (Qd rfl rfl (WpL.nil (Qg ?_)))
   apply RetQ.mk
   ·exact (QX rfl rfl rfl)
   ·exact ⟨own 5 1 a64 c64 (wrI m k).length (XY (wrI m k)), a64, c64, Q4, rfl, rfl⟩
   ·exact Take.ent' (by repeat' constructor)

end Go.Proofs.YtggamdlpiejbiaaGreat
namespace Go.Proofs.YtggamdlpiejbiaaGreat
open Go.RowKit Go.Shelf


/-- Images' bytes, joined. -/
def Yu : List Img → List Int → List Int
  | m :: ms, k :: ks => wrI m k ++ (if k < 4 then [10] else []) ++ Yu ms ks
  | _, _ => []
theorem joinI_snoc {m : Img} {k : Int} : ∀ {ms : List Img} {ks : List Int}, ms.length = ks.length → Yu (ms ++ [m]) (ks ++ [k]) = Yu ms ks ++ wrI m k ++ (if k < 4 then [10] else [])
  | [], [], _ => by simp [Yu]
  | a :: ms, b :: ks, h => by
    simp only [List.cons_append, Yu]
    rw [joinI_snoc (by simpa using h)]
    simp only [List.append_assoc]
  | [], _ :: _, h => by simp at h
  | _ :: _, [], h => by simp at h
theorem wrI_len {most : Int} {m : Img} {k : Int} (hmo : most ≤ 100) (hg : ZK most m) (hk : k ∈ Xi m.c m.m) : (wrI m k).length ≤ 3000000 := by
  obtain ⟨hMay, hfit, hfm⟩ := good_fits hmo hg hk
  obtain ⟨hz1, hz2⟩ := good_sz hmo hg
  have hM2 := hMay
  unfold XN at hM2
  obtain ⟨_, hg2, hgw, hgh, hgl, _⟩ := id hg
  have hz6 := hdW_len (K := k) (W := m.w) (H := m.h) (M := m.m) (by omega) (by omega) (by omega) (by omega)
  have hWn : ((m.w.toNat : Nat) : Int) = m.w := by omega
  have hHn : ((m.h.toNat : Nat) : Int) = m.h := by omega
  have hpl : m.px.length = m.w.toNat * m.h.toNat := by
    have q : ((m.w.toNat * m.h.toNat : Nat) : Int) = m.w * m.h := by rw [Int.natCast_mul, hWn, hHn]
    omega
  have hwl := wrRaw_len (K := k) (w := Qi m.m) (Q7 m.m) hpl (fun p hp => by have := can_fit (hfit p hp); omega) m.h.toNat (Nat.le_refl _)
  have hsb := X1 (K := k) (W := m.w.toNat) (Q7 m.m) (by omega) (by omega)
  have hwl2 : (YP k m.w.toNat (Qi m.m) m.px m.h.toNat).length ≤ 24576 * 100 := by rw [hwl]; exact Nat.mul_le_mul hsb.2 (by omega)
  have h8 := wrL_len (K := k) (W := m.w) m.px 0
  unfold wrI
  rw [List.length_append]
  split <;> omega

theorem rJoin_spec (A1 A0 A2 : HP) (la : Option Addr) (lc : Nat) (L : List (Img × Option Addr × Nat)) (hL : RdsL [A1] la (L.flatMap iC)) (hpx : ∀ r ∈ L, RdsL [A0] r.2.1 (XG r.1.px)) (most : Int) (hmo : most ≤ 100) (hgd : ∀ r ∈ L, ZK most r.1) (hl : L.length ≤ 1000) (ka : Option Addr) (kc : Nat) (ks : List Int) (hk : RdsL [A2] ka (Q2 ks)) (hko : KindsOk (L.map (·.1)) ks) : Fn Tryz.prog 26 #[.slice la L.length lc, .slice ka ks.length kc] [A1, A0, A2] (fun v l => ∃ a c, v = .tuple #[.slice a (Yu (L.map (·.1)) ks).length c, .int .i64 0] ∧ l = [own 5 1 a c (Yu (L.map (·.1)) ks).length (XY (Yu (L.map (·.1)) ks)), A1, A0, A2]) := by
 have hll : L.length = ks.length := by rw [← hko.len, List.length_map]
 refine Qo (vs := [.slice la L.length lc, .slice ka ks.length kc]) Tryz.func26 rfl Tryz.ntmps26 rfl (Qb (Qa (Qd rfl rfl (Qd rfl rfl (WpL.nil (Qb (Qa (Qd rfl rfl (WpL.nil (Qb (Qb (Qa ?_))))))))))))
 refine Qc rfl rfl (QO rfl rfl (Qc rfl rfl (QO rfl rfl (Xu rfl rfl rfl (WpL.nil (QA rfl (fun hn => hn (by omega)) ?_))))))
 refine Wp.skip (Qb (Qb (Qa (Qd rfl rfl (WpL.nil (Wp.block ?_))))))
 refine Wp.loopD (σ := KdX) (fun x => x.k ≤ L.length ∧ x.out = Yu ((L.take x.k).map (·.1)) (ks.take x.k) ∧ x.out.length ≤ x.k * 3000001) [4, 5, 6, 7, 8, 9, 15, 16, 17, 18, 19, 20, 21, 22, 23, 24, 25, 26, 27, 28, 29, 30, 31, 32, 33, 34, 35, 36, 37, 38, 39, 40, 41, 42, 43, 44, 45, 46] (fun x => [(7, .int .i64 (x.k : Int)), (6, .slice x.a x.out.length x.c)]) (fun x => [own 5 1 x.a x.c x.out.length (XY x.out), A1, A0, A2]) (fun x => L.length - x.k) ⟨0, [], none, 0⟩ ?_ (by repeat (first | exact FrLe.nil | refine FrLe.cons rfl ?_)) ?_ ?_
 ·exact ⟨Nat.zero_le _, rfl, Nat.zero_le _⟩
 ·exact Ent.own_nil (Ent.refl _)
 ·rintro ⟨k, out, a, c⟩ ⟨hk1, ho, hol⟩
  dsimp only at hk1 ho hol ⊢
  refine Qb (Qb (Qa (Qc rfl rfl (Qc rfl rfl (QO rfl rfl (Xc rfl rfl rfl (WpL.nil (Qh rfl (fun h2 => ?_) (fun h2 => ?_)))))))))
  ·have hlt : k < L.length := by omega
   have hlk : k < ks.length := by omega
   have hkm := hko.get k (by rw [List.length_map]; exact hlt) hlk
   rw [List.getElem_map] at hkm
   have hgk := hgd _ (List.getElem_mem hlt)
   have hwl := wrI_len hmo hgk hkm
   have hsn : Yu ((L.take (k + 1)).map (·.1)) (ks.take (k + 1)) = Yu ((L.take k).map (·.1)) (ks.take k) ++ (wrI L[k].1 ks[k]) ++ (if ks[k] < 4 then [10] else []) := by
    rw [Yf L hlt, Yf ks hlk, List.map_append]
    exact joinI_snoc (by rw [List.length_map, List.length_take, List.length_take]; omega)
   refine Wp.skip (Qb (Wp.block ?_))
   refine Qb ?_
   apply Xk (fB := []) mixed [(8, false)] (by kernel_rfl)
   apply Xd [⟨0, 22, _, [], false⟩, ⟨1, 23, _, [], false⟩, ⟨2, 24, _, [0, 1], false⟩, ⟨3, 25, _, [2], false⟩, ⟨4, 26, _, [], false⟩, ⟨5, 27, _, [], false⟩, ⟨6, 28, _, [4, 5], false⟩, ⟨7, 29, _, [6], false⟩] [] [0, 1, 2, 3, 4, 5, 6, 7] [21, 31, 32, 8, 9] (.inr rfl) rfl rfl rfl (by kernel_rfl) rfl rfl rfl
   ·refine AllF.cons rfl rfl rfl rfl ?_ ?_
    ·exact Qc rfl rfl (Qn rfl)
    refine AllF.cons rfl rfl rfl rfl ?_ ?_
    ·exact Qc rfl rfl (Qn rfl)
    refine AllF.cons rfl rfl rfl rfl ?_ ?_
    ·refine s_ixR (s := 5) k rfl rfl rfl hL (by exact Take.ent' (by repeat' constructor)) rfl (by omega) (iC_ne (by omega)) ?_
     exact Qn rfl
    refine AllF.cons rfl rfl rfl rfl ?_ ?_
    ·refine s_ldaX (vs := iC L[k]) rfl rfl hL (by exact Take.ent' (by repeat' constructor)) (iC_ne (by omega)) rfl (Y7 (s := 5) (f := iC) (fun _ => rfl) L k hlt) ?_
     exact Qn rfl
    refine AllF.cons rfl rfl rfl rfl ?_ ?_
    ·exact Qc rfl rfl (Qn rfl)
    refine AllF.cons rfl rfl rfl rfl ?_ ?_
    ·exact Qc rfl rfl (Qn rfl)
    refine AllF.cons rfl rfl rfl rfl ?_ ?_
    ·refine Xs k rfl rfl rfl hk (by exact Take.ent' (by repeat' constructor)) rfl (by omega) (by rw [Xm]; omega) ?_
     exact Qn rfl
    refine AllF.cons rfl rfl rfl rfl ?_ ?_
    ·refine Xv rfl rfl hk (by exact Take.ent' (by repeat' constructor)) (XO ks hlk) ?_
     exact Qn rfl
    exact AllF.nil
   ·refine Qk rfl rfl (by repeat' constructor) (rWrite10_spec A0 L[k].1 L[k].2.1 L[k].2.2 (hpx _ (List.getElem_mem hlt)) most hmo hgk ks[k] hkm) ?_
    rintro _ _ ⟨B, b8, e8, hB, rfl, rfl⟩
    simp only [Qv]
    refine WpL.nil ⟨rfl, rfl, ?_⟩
    apply GoR.nil [⟨9, 21, _, [8], false⟩, ⟨10, 31, _, [9], false⟩, ⟨11, 32, _, [9], false⟩, ⟨12, 8, _, [0, 1, 2, 3, 4, 5, 6, 7, 8, 9, 10], false⟩, ⟨13, 9, _, [0, 1, 2, 3, 4, 5, 6, 7, 8, 9, 10, 11, 12], false⟩] (.inr rfl) rfl rfl
    ·refine AllF.cons rfl rfl rfl rfl ?_ ?_
     ·exact Qc rfl rfl (Qn rfl)
     refine AllF.cons rfl rfl rfl rfl ?_ ?_
     ·exact QL rfl rfl rfl (Qn rfl)
     refine AllF.cons rfl rfl rfl rfl ?_ ?_
     ·exact QL rfl rfl rfl (Qn rfl)
     refine AllF.cons rfl rfl rfl rfl ?_ ?_
     ·exact Qd rfl rfl (Qn rfl)
     refine AllF.cons rfl rfl rfl rfl ?_ ?_
     ·exact Qd rfl rfl (Qn rfl)
     exact AllF.nil
    ·refine Qb (Qb (Qa (Qc rfl rfl (Xu rfl rfl rfl (WpL.nil (QA rfl (by decide) (Wp.skip (Qb (Qa (Qc rfl rfl (Qc rfl rfl (s_appR (m2 := (wrI L[k].1 ks[k]).length) rfl rfl rfl (by repeat' constructor) hB (by exact Take.ent' (by repeat' constructor)) (by rw [XP, Nat.mul_one]) (by rfl) (by rfl) (u8s_one _) (by omega) (by omega) ?_))))))))))))
     intro a38 c38
     rw [u8s_app, ← List.length_append]
     have hl38 : (out ++ (wrI L[k].1 ks[k])).length = out.length + (wrI L[k].1 ks[k]).length := List.length_append
     refine Qd rfl rfl (WpL.nil (Qb (Qa (Qc rfl rfl (Qc rfl rfl (Xs k rfl rfl rfl hk (by exact Take.ent' (by repeat' constructor)) rfl (by omega) (by rw [Xm]; omega) ?_))))))
     refine Xv rfl rfl hk (by exact Take.ent' (by repeat' constructor)) (XO ks hlk) ?_
     refine Xc rfl rfl rfl (WpL.nil (Qh rfl (fun h4 => ?_) (fun h4 => ?_)))
     ·refine Qa (Qc rfl rfl ?_)
      refine X7 rfl rfl rfl rfl ?_
      intro g1
      refine XC rfl rfl rfl (by repeat' constructor) (by rfl) (by rfl) (by rfl) (by rfl) (by omega) (by omega) ?_
      intro a46 c46
      rw [u8s_snoc, show (out ++ (wrI L[k].1 ks[k])).length + 1 = ((out ++ (wrI L[k].1 ks[k])) ++ [10]).length from by simp only [List.length_append, List.length_cons, List.length_nil, Nat.zero_add]]
      refine Qd rfl rfl (WpL.nil (Qa (Qc rfl rfl (Qx rfl rfl rfl (Qp (by omega) (by omega)) ?_))))
      refine Qd rfl rfl (WpL.nil (Qq (⟨k + 1, out ++ (wrI L[k].1 ks[k]) ++ [10], a46, c46⟩ : KdX) ?_ ?_ (by ((repeat (first | exact Top.refl | refine Top.push rfl ?_)); done)) (by repeat (first | exact FrLe.nil | refine FrLe.cons rfl ?_)) ?_))
      ·exact ⟨by simp only; omega, by simp only; rw [hsn, if_pos (by omega), ho], by simp only [List.length_append, List.length_cons, List.length_nil]; omega⟩
      ·simp only; omega
      ·exact Take.ent' (by repeat' constructor)
     ·refine Wp.skip (Qa (Qc rfl rfl (Qx rfl rfl rfl (Qp (by omega) (by omega)) ?_)))
      refine Qd rfl rfl (WpL.nil (Qq (⟨k + 1, out ++ (wrI L[k].1 ks[k]), a38, c38⟩ : KdX) ?_ ?_ (by ((repeat (first | exact Top.refl | refine Top.push rfl ?_)); done)) (by repeat (first | exact FrLe.nil | refine FrLe.cons rfl ?_)) ?_))
      ·exact ⟨by simp only; omega, by simp only; rw [hsn, if_neg (by omega), List.append_nil, ho], by simp only [List.length_append]; omega⟩
      ·simp only; omega
      ·exact Take.ent' (by repeat' constructor)
  ·have hkE : k = L.length := by omega
   rw [hkE, List.take_length, hll, List.take_length] at ho
   subst ho
   refine QV (Qb (Qa (Qc rfl rfl (Qd rfl rfl (Qd rfl rfl (WpL.nil (Qg ?_)))))))
   apply RetQ.mk
   ·exact (QX rfl rfl rfl)
   ·exact ⟨a, c, rfl, rfl⟩
   ·exact Ent.refl _

end Go.Proofs.YtggamdlpiejbiaaGreat
namespace Go.Proofs.YtggamdlpiejbiaaGreat
open Go.RowKit Go.Shelf


theorem joinI_bd {most : Int} (hmo : most ≤ 100) : ∀ {ms : List Img} {ks : List Int}, KindsOk ms ks → (∀ m ∈ ms, ZK most m) → (Yu ms ks).length ≤ ms.length * 3000001
  | [], [], _, _ => by simp [Yu]
  | m :: ms, k :: ks, ⟨h1, h2⟩, hg => by
    have ih := joinI_bd hmo h2 fun x hx => hg x (List.mem_cons_of_mem _ hx)
    have hw := wrI_len hmo (hg m (List.mem_cons_self ..)) h1
    simp only [Yu, List.length_append, List.length_cons]
    split <;> simp only [List.length_cons, List.length_nil] <;> omega
theorem hdW_bd {K W H M : Int} : ∀ b ∈ hdW K W H M, 0 ≤ b ∧ b ≤ 255 := by
  intro b hb
  unfold hdW at hb
  have hd : ∀ n, b ∈ X0 n → 0 ≤ b ∧ b ≤ 255 := fun n h => by have := digs_bd n b h; omega
  simp only [List.mem_append, List.mem_singleton] at hb
  rcases hb with ((((((h | h) | h) | h) | h) | h) | h) | h
  · omega
  · exact hd _ h
  · omega
  · exact hd _ h
  · omega
  · exact hd _ h
  · omega
  · split at h
    · simp at h
    · rcases List.mem_append.1 h with h | h
      · exact hd _ h
      · have := List.mem_singleton.1 h; omega

end Go.Proofs.YtggamdlpiejbiaaGreat
namespace Go.Proofs.YtggamdlpiejbiaaGreat
open Go.RowKit Go.Shelf


theorem wrI_byte {most : Int} {m : Img} {k : Int} (_hmo : most ≤ 100) (hg : ZK most m) (hk : k ∈ Xi m.c m.m) : ∀ b ∈ wrI m k, 0 ≤ b ∧ b ≤ 255 := by
  intro b hb
  obtain ⟨_, _, hc, h4⟩ := kinds_mem hk
  unfold wrI at hb
  rcases List.mem_append.1 hb with h | h
  · exact hdW_bd b h
  · split at h
    · exact wrL_byte _ _ b h
    · exact wrRaw_bd hg.2.1 (fun q => h4 (.inr q)) (fun p hp => by rw [hc]; exact (hg.2.2.2.2.2 p hp).1) b h
theorem joinI_byte {most : Int} (hmo : most ≤ 100) : ∀ {ms : List Img} {ks : List Int}, KindsOk ms ks → (∀ m ∈ ms, ZK most m) → ∀ b ∈ Yu ms ks, 0 ≤ b ∧ b ≤ 255
  | [], [], _, _ => by simp [Yu]
  | m :: ms, k :: ks, ⟨h1, h2⟩, hg => by
    intro b hb
    simp only [Yu] at hb
    rcases List.mem_append.1 hb with hb | hb
    · rcases List.mem_append.1 hb with hb | hb
      · exact wrI_byte hmo (hg m (List.mem_cons_self ..)) h1 b hb
      · split at hb
        · have := List.mem_singleton.1 hb; omega
        · simp at hb
    · exact joinI_byte hmo h2 (fun x hx => hg x (List.mem_cons_of_mem _ hx)) b hb
end Go.Proofs.YtggamdlpiejbiaaGreat
namespace Go.Proofs.YtggamdlpiejbiaaGreat
open Go.RowKit Go.Shelf


/-- The document's example. -/
def livS (bs : List Int) : PS × Int := bs.foldl (fun q c => ((Xq (QG 4096) (QH 65536) (QI 65535) q.1 c).1, q.2 + ((Xq (QG 4096) (QH 65536) (QI 65535) q.1 c).2.length : Int))) (ps0, 0)
theorem livS_snoc (bs : List Int) (c : Int) : livS (bs ++ [c]) = ((Xq (QG 4096) (QH 65536) (QI 65535) (livS bs).1 c).1, (livS bs).2 + ((Xq (QG 4096) (QH 65536) (QI 65535) (livS bs).1 c).2.length : Int)) := by unfold livS; rw [List.foldl_append]; rfl
theorem livS_I : ∀ (bs : List Int) (_ : ∀ b ∈ bs, 0 ≤ b ∧ b ≤ 255) (n : Nat), n ≤ bs.length → psI (QG 4096) (QH 65536) (QI 65535) n (livS (bs.take n)).1
  | bs, _, 0, _ => psI0 _ _ _
  | bs, hb, n + 1, hn => by
    have ih := livS_I bs hb n (by omega)
    have hc := hb _ (List.getElem_mem (show n < bs.length by omega))
    rw [Yf bs (by omega), livS_snoc]
    exact psPut_I (lim_o 4096 65536 65535) ih hc.1 hc.2
theorem liv_end : (livS (QZ (⟨#[80, 52, 32, 49, 32, 49, 32]⟩ : ByteArray))).2 = 1 ∧ (Xq (QG 4096) (QH 65536) (QI 65535) (livS (QZ (⟨#[80, 52, 32, 49, 32, 49, 32]⟩ : ByteArray))).1 128).2.length = 2 ∧ (Xq (QG 4096) (QH 65536) (QI 65535) (livS (QZ (⟨#[80, 52, 32, 49, 32, 49, 32]⟩ : ByteArray))).1 128).1.imgs = 1 := by decide +kernel

end Go.Proofs.YtggamdlpiejbiaaGreat
namespace Go.Proofs.YtggamdlpiejbiaaGreat
open Go.RowKit Go.Shelf


theorem bsOf_bd (s : ByteArray) : ∀ b ∈ QZ s, 0 ≤ b ∧ b ≤ 255 := by
  intro b hb
  unfold QZ at hb
  obtain ⟨x, _, rfl⟩ := List.mem_map.1 hb
  have := UInt8.toNat_lt x
  omega
theorem liv_n : ∀ k : Fin 8, 0 ≤ (livS ((QZ (⟨#[80, 52, 32, 49, 32, 49, 32]⟩ : ByteArray)).take k.val)).2 ∧ (livS ((QZ (⟨#[80, 52, 32, 49, 32, 49, 32]⟩ : ByteArray)).take k.val)).2 ≤ 100 := by decide +kernel

theorem llives_spec  : Fn Tryz.prog 20 #[] [] (fun v l => v = .bool true ∧ l = []) := by
 have hsz : ((⟨#[80, 52, 32, 49, 32, 49, 32]⟩ : ByteArray)).size = 7 := rfl
 refine Qo (vs := []) Tryz.func20 rfl Tryz.ntmps20 rfl (Qb (Qa (Qd rfl rfl (WpL.nil (Qb (Qa (Qk rfl rfl (by repeat' constructor) (hdAll_spec) ?_)))))))
 rintro _ _ ⟨rfl, rfl⟩
 simp only [Qv]
 refine Qk rfl rfl (by repeat' constructor) (pnNew_spec 4096 65536 65535) ?_
 rintro _ _ ⟨gP, rfl, rfl⟩
 simp only [Qv]
 refine Qd rfl rfl (WpL.nil (Qb (Qb (Qa (Qc rfl rfl (s_peq rfl Tryz.underlying35 rfl rfl (WpL.nil (ZY rfl rfl (Wp.skip (Qb (Qa (Qd rfl rfl ?_))))))))))))
 refine WpL.nil (Qb (Qa (Qd rfl rfl (WpL.nil (Qb (Qb (Qa (Qd rfl rfl (WpL.nil (Wp.block ?_))))))))))
 refine Wp.loopD (σ := Nat) (fun k => k ≤ 7) [3, 4, 10, 11, 12, 13, 14, 15, 16, 17, 18, 19, 20, 21, 22, 23] (fun k => [(4, .int .i64 (k : Int)), (3, .int .i64 (livS ((QZ (⟨#[80, 52, 32, 49, 32, 49, 32]⟩ : ByteArray)).take k)).2)]) (fun k => [psR gP 4096 65536 65535 (livS ((QZ (⟨#[80, 52, 32, 49, 32, 49, 32]⟩ : ByteArray)).take k)).1]) (fun k => 7 - k) 0 ?_ (by repeat (first | exact FrLe.nil | refine FrLe.cons rfl ?_)) ?_ ?_
 ·exact Nat.zero_le _
 ·exact Ent.refl _
 ·rintro k hk
  have hI := livS_I (QZ (⟨#[80, 52, 32, 49, 32, 49, 32]⟩ : ByteArray)) (bsOf_bd _) k (by rw [Xa]; exact hk)
  have hn := liv_n ⟨k, by omega⟩
  dsimp only at hn
  refine Qb (Qb (Qa (Qc rfl rfl (Qc rfl rfl (XE rfl Tryz.underlying9 rfl (Xc rfl rfl rfl (WpL.nil (Qh rfl (fun h2 => ?_) (fun h2 => ?_)))))))))
  ·have hlt : k < 7 := by omega
   have hkb : k < (QZ (⟨#[80, 52, 32, 49, 32, 49, 32]⟩ : ByteArray)).length := hlt
   have hcb := bsOf_bd _ _ (List.getElem_mem hkb)
   have hsn := livS_snoc ((QZ (⟨#[80, 52, 32, 49, 32, 49, 32]⟩ : ByteArray)).take k) (QZ (⟨#[80, 52, 32, 49, 32, 49, 32]⟩ : ByteArray))[k]
   rw [← Yf _ hkb] at hsn
   have hs1 := congrArg (·.1) hsn
   have hs2 := congrArg (·.2) hsn
   dsimp only at hs1 hs2
   have hn2 := liv_n ⟨k + 1, by omega⟩
   dsimp only at hn2
   refine Wp.skip (Qb (Wp.block ?_))
   refine Qa (Qc rfl rfl (Qc rfl rfl (Qc rfl rfl (Qc rfl rfl (Yr rfl Tryz.underlying9 rfl rfl (by omega) hlt ?_)))))
   have e20 : ((((⟨#[80, 52, 32, 49, 32, 49, 32]⟩ : ByteArray))[((k : Int)).toNat]'hlt).toNat : Int) = (QZ (⟨#[80, 52, 32, 49, 32, 49, 32]⟩ : ByteArray))[k] := (bsOf_at hlt).symm
   rw [e20]
   refine Qk rfl rfl (by repeat' constructor) (psPut_rep gP 4096 65536 65535 _ _ (by omega) hI _ (by omega) (by omega)) ?_
   rintro _ _ rfl
   simp only [Qv]
   refine WpL.exs (Take1.there Take1.here) fun pv => ?_
   refine WpL.pur Take1.here fun hv => ?_
   obtain ⟨aE, cE, aR, cR⟩ := pv
   dsimp only at hv
   subst hv
   refine QO rfl rfl (Qx rfl rfl rfl (Qp (by omega) (by omega)) ?_)
   refine Qd rfl rfl (WpL.nil (Qa (Qc rfl rfl (Qx rfl rfl rfl (Qp (by omega) (by omega)) ?_))))
   refine Qd rfl rfl (WpL.nil (Qq (k + 1) ?_ ?_ (by ((repeat (first | exact Top.refl | refine Top.push rfl ?_)); done)) (FrLe.cons rfl (FrLe.cons (by exact congrArg (fun z => some (Value.int .i64 z)) hs2.symm) FrLe.nil)) ?_))
   ·omega
   ·omega
   ·rw [hs1]
    exact Take.ent' (by repeat' constructor)
  ·obtain rfl : k = 7 := by omega
   rw [show (QZ (⟨#[80, 52, 32, 49, 32, 49, 32]⟩ : ByteArray)).take 7 = QZ (⟨#[80, 52, 32, 49, 32, 49, 32]⟩ : ByteArray) from rfl] at *
   refine QV (Qb (Qa (Qc rfl rfl (Qk rfl rfl (by repeat' constructor) (psPut_rep gP 4096 65536 65535 _ _ (by omega) hI _ (by omega) (by omega)) ?_))))
   rintro _ _ rfl
   simp only [Qv]
   refine WpL.exs (Take1.there Take1.here) fun pv => ?_
   refine WpL.pur Take1.here fun hv => ?_
   obtain ⟨aE, cE, aR, cR⟩ := pv
   dsimp only at hv
   subst hv
   refine Qd rfl rfl (WpL.nil (Qb (Qa (Qc rfl rfl (QJ rfl rfl rfl (Qc rfl rfl (QB (dj := 28) rfl (decide_eq_true liv_end.1) ?_)))))))
   refine Qf rfl rfl (Qc rfl rfl (Qf rfl rfl (QO rfl rfl (Qf rfl rfl (QJ rfl rfl rfl (Qr rfl rfl rfl (Qc rfl rfl (QB (dj := 33) rfl (decide_eq_true (by have := liv_end.2.1; omega)) ?_))))))))
   refine Qf rfl rfl (Qc rfl rfl (Qf rfl rfl (Qk rfl rfl (by repeat' constructor) (psImages_rep gP 4096 65536 65535 _) ?_)))
   rintro _ _ ⟨rfl, rfl⟩
   simp only [Qv]
   refine Qf rfl rfl (QJ rfl rfl rfl (Qr rfl rfl rfl (Qd rfl rfl (WpL.nil (Qg ?_)))))
   apply RetQ.mk
   ·exact (Res.one rfl rfl)
   ·exact ⟨congrArg Value.bool (decide_eq_true liv_end.2.2), rfl⟩
   ·exact Ent.nil _

end Go.Proofs.YtggamdlpiejbiaaGreat
namespace Go.Proofs.YtggamdlpiejbiaaGreat
open Go.RowKit Go.Shelf

def ZT (es : List Evt) : Int := ((es.filter fun x => decide (x.k = 3)).length : Int)
theorem cnt3_app (a b : List Evt) : ZT (a ++ b) = ZT a + ZT b := by unfold ZT; rw [List.filter_append, List.length_append]; push_cast; rfl
def EvOk (es : List Evt) : Prop := ∀ x ∈ es.tail, x.row = []
theorem psEvts_q (s : PS) (bd : Bd) (st e : Int) (row : List Int) : (Xx s bd st e row).1.told = s.told ∧ (Xx s bd st e row).1.imgs = s.imgs + ZT (Xx s bd st e row).2 ∧ EvOk (Xx s bd st e row).2 ∧ (Xx s bd st e row).1.over = s.over := by
  unfold Xx XB XA
  by_cases h1 : st = 1 <;> by_cases h2 : st = 2 <;> by_cases h3 : row = [] <;> simp [h1, h2, h3, ZT, EvOk]
  all_goals (subst h2; simp_all)
theorem psHeads_q (s : PS) (h : HS) : (Xr s h).1.told = s.told ∧ (Xr s h).1.imgs = s.imgs + ZT (Xr s h).2 ∧ EvOk (Xr s h).2 ∧ (Xr s h).1.over = s.over := by
  unfold Xr
  repeat' split
  all_goals simp [ZT, EvOk]
theorem psStep_q (l0 l1 l2 : Int) (s : PS) (c : Int) : (XS l0 l1 l2 s c).1.told = s.told ∧ (XS l0 l1 l2 s c).1.imgs = s.imgs + ZT (XS l0 l1 l2 s c).2 ∧ EvOk (XS l0 l1 l2 s c).2 ∧ (XS l0 l1 l2 s c).1.over = s.over := by
  unfold XS
  split
  · split
    · simp [ZT, EvOk]
    · exact psHeads_q _ _
  · split
    · exact psHeads_q _ _
    · unfold psBody
      split
      · simp [ZT, EvOk]
      · exact psEvts_q _ _ _ _ _
      · exact psEvts_q _ _ _ _ _
def aliveP (s : PS) : Prop := s.over = false ∧ s.e = 0
theorem dead_of {s : PS} (h : ¬ aliveP s) : s.over = true ∨ s.e ≠ 0 := by
  unfold aliveP at h
  by_cases he : s.e = 0
  · left; cases ho : s.over with
    | true => rfl
    | false => exact absurd ⟨ho, he⟩ h
  · exact .inr he
theorem psPut_q (l0 l1 l2 : Int) (s : PS) (c : Int) : ((Xq l0 l1 l2 s c).2 ≠ [] → aliveP s) ∧ (aliveP (Xq l0 l1 l2 s c).1 → aliveP s) ∧ (aliveP s → (Xq l0 l1 l2 s c).1.told = s.told + 1) ∧ (Xq l0 l1 l2 s c).1.imgs = s.imgs + ZT (Xq l0 l1 l2 s c).2 ∧ EvOk (Xq l0 l1 l2 s c).2 := by
  by_cases h : aliveP s
  · rw [ZC _ _ _ h.1 h.2]
    have q := psStep_q l0 l1 l2 { s with told := s.told + 1 } c
    exact ⟨fun _ => h, fun _ => h, fun _ => q.1, q.2.1, q.2.2.1⟩
  · rw [psPut_dead _ _ _ (dead_of h)]
    exact ⟨fun q => absurd rfl q, fun q => absurd q h, fun q => absurd q h, by simp [ZT], by simp [EvOk]⟩
theorem Zx (l0 l1 l2 : Int) : ∀ (xs bs : List Int) (s : PS), QF l0 l1 l2 s (xs ++ bs) = XR (QF l0 l1 l2 s xs).2 (QF l0 l1 l2 (QF l0 l1 l2 s xs).1 bs)
  | [], bs, s => by simp [QF, XR]
  | a :: xs, bs, s => by
    rw [List.cons_append, XK, Zx l0 l1 l2 xs bs, XK, Ys]
    rfl
theorem psRun_snoc (l0 l1 l2 : Int) (bs : List Int) (c : Int) (s : PS) : QF l0 l1 l2 s (bs ++ [c]) = ((Xq l0 l1 l2 (QF l0 l1 l2 s bs).1 c).1, (QF l0 l1 l2 s bs).2 ++ (Xq l0 l1 l2 (QF l0 l1 l2 s bs).1 c).2.map fun x => (x, (Xq l0 l1 l2 (QF l0 l1 l2 s bs).1 c).1.told)) := by
  rw [Zx, XK]
  simp [QF, XR]
theorem Vi (l0 l1 l2 : Int) : ∀ (bs : List Int) (s : PS), (QF l0 l1 l2 s bs).1.imgs = s.imgs + ZT ((QF l0 l1 l2 s bs).2.map (·.1))
  | [], s => by simp [QF, ZT]
  | c :: bs, s => by
    rw [XK]
    have q := psPut_q l0 l1 l2 s c
    have ih := Vi l0 l1 l2 bs (Xq l0 l1 l2 s c).1
    simp only [XR, List.map_append, cnt3_app, List.map_map]
    rw [ih, q.2.2.2.1, show ((fun x : Evt × Int => x.1) ∘ fun x => (x, (Xq l0 l1 l2 s c).1.told)) = id from rfl, List.map_id]
    omega
theorem map_fst {α β : Type} {l : List (α × β)} {es : List α} (h : l.map (·.1) = es) {i : Nat} (hi : i < l.length) (hj : i < es.length) : l[i].1 = es[i] := by subst h; simp

end Go.Proofs.YtggamdlpiejbiaaGreat
namespace Go.Proofs.YtggamdlpiejbiaaGreat
open Go.RowKit Go.Shelf
def okFs (P : Program) : Nat → List Field → Bool
  | _, [] => true
  | i, f :: fs => (f.name != "_") && (f.offset == i) && (match P.underlying f.type with | some (.int .i64) => true | _ => false) && P.plainKey f.type && okFs P (i + 1) fs
theorem run_eqFields {P : Program} (d : Nat) (us vs : List Int) (hl : us.length = vs.length) (w : World) : ∀ (fs : List Field) (i : Nat), i + fs.length = us.length → okFs P i fs = true → (Op.eqFields (d + 1) (Q2 us).toArray (Q2 vs).toArray fs).run P w = .ok (decide (us.drop i = vs.drop i)) w
  | [], i, hi, _ => by
    simp only [List.length_nil] at hi
    rw [List.drop_of_length_le (by omega), List.drop_of_length_le (by omega)]
    simp [Op.eqFields]
  | f :: fs, i, hi, hk => by
    simp only [List.length_cons] at hi
    simp only [okFs, Bool.and_eq_true, bne_iff_ne, beq_iff_eq] at hk
    obtain ⟨⟨⟨⟨h1, h2⟩, h3⟩, h4⟩, h5⟩ := hk
    have hu : P.underlying f.type = some (.int .i64) := by
      split at h3
      · assumption
      · cases h3
    have e1 : (part f.type (Q2 us).toArray f.offset).run P w = .ok (.int .i64 (us[i]'(by omega))) w := run_part_plain w h4 (by rw [h2]; simp [Q2, List.getElem?_eq_getElem (show i < us.length by omega)])
    have e2 : (part f.type (Q2 vs).toArray f.offset).run P w = .ok (.int .i64 (vs[i]'(by omega))) w := run_part_plain w h4 (by rw [h2]; simp [Q2, List.getElem?_eq_getElem (show i < vs.length by omega)])
    have ih := run_eqFields (P := P) d us vs hl w fs (i + 1) (by omega) h5
    unfold Op.eqFields
    rw [if_pos h1]
    simp only [Sem.run_bind, e1, e2, Result.andThen_ok, run_equalIn_int w d f.type .i64 .i64 _ _ hu]
    have d1 := List.drop_eq_getElem_cons (show i < us.length by omega)
    have d2 := List.drop_eq_getElem_cons (show i < vs.length by omega)
    by_cases hx : us[i]'(by omega) = vs[i]'(by omega)
    · rw [if_neg (by simp [hx]), ih]
      have q : us.drop (i + 1) = vs.drop (i + 1) ↔ us.drop i = vs.drop i := by
        rw [d1, d2, hx]
        exact ⟨fun e => by rw [e], fun e => (List.cons.inj e).2⟩
      rw [decide_eq_decide.2 q]
    · rw [if_pos (by simp [hx])]
      have q : ¬ us.drop i = vs.drop i := by
        rw [d1, d2]
        exact fun e => hx (List.cons.inj e).1
      rw [decide_eq_false q]
      simp
class AeqT (P : Program) (T : Nat) (k : outParam Nat) : Prop where
  hu : P.underlying T = some (.struct (P.fieldsOf T))
  st : P.stoodInHeld T = false
  gd : P.eqGuardType P.depth T = false
  ok : okFs P 0 (P.fieldsOf T).toList = true
  hk : (P.fieldsOf T).toList.length = k
section
variable {P : Program} {n : Cx} {D : List Deferred} {ops : Array Oper} {rest : List Oper} {Q : Post} {fr : Fr} {l : List HP} {ty : Nat} {pos : String} {aft : Array Edge}
theorem run_aeq {T k : Nat} (hT : AeqT P T k) (us vs : List Int) (h1 : us.length = k) (h2 : vs.length = k) (w : World) : (Op.equalIn 10000 T (.agg (Q2 us).toArray) (.agg (Q2 vs).toArray)).run P w = .ok (decide (us = vs)) w := by
  rw [run_equalIn_struct w 9999 T _ _ hT.hu hT.st]
  have := run_eqFields (P := P) 9998 us vs (by omega) w (P.fieldsOf T).toList 0 (by rw [hT.hk]; omega) hT.ok
  simpa using this
theorem s_aeq {d T T2 k : Nat} {x y : Operand} (us vs : List Int) (hd : Nat.blt d n = true) [hT : AeqT P T k] (hx : ev fr x = some (.agg (Q2 us).toArray)) (hy : ev fr y = some (.agg (Q2 vs).toArray)) (h1 : us.length = k) (h2 : vs.length = k)
    (kk : WpL P n D ops rest Q ((d, .bool (decide (us = vs))) :: fr) l) : WpL P n D ops (⟨some d, .binOp .eql T x y T2, ty, pos, aft, none⟩ :: rest) Q fr l :=
  WpL.val hd (fun A w _ hh _ => by
    simp only [execOp, hh.ev hx, hh.ev hy, Sem.run_bind, run_eqGuard_agg w .eql T x y _ _ hT.gd, Result.andThen_ok, run_eql_struct, run_aeq hT us vs h1 h2]
    simp) kk
theorem own_max {w : World} {S : Nat → Prop} {T s c m : Nat} {a : Option Addr} {xs : List Value} (h : (own T s a c m xs).p w S) : m ≤ 9223372036854775807 := by
  rcases h.2.2 with h2 | ⟨g, cap, cur, e, h0, hh, h1, h3, rest⟩
  · have := YF h
    rcases this with ⟨_, _, h, _⟩ | ⟨_, _, e, _⟩
    · omega
    · obtain ⟨e0, _⟩ := h2
      rw [e] at e0
      cases e0
  · have := YF h
    rcases this with ⟨_, _, h, _⟩ | ⟨_, _, _, _, hmc, _⟩
    · omega
    · injection e with e1 e2 e3
      unfold maxLen at h3
      omega
theorem Wp.ownMax {co : Code} {T s c m : Nat} {a : Option Addr} {xs : List Value} (he : Ent l [own T s a c m xs]) (k : m ≤ 9223372036854775807 → Wp P n D co Q fr l) : Wp P n D co Q fr l := fun A w U hh hs => by
  obtain ⟨S, hp, _⟩ := he w U hs
  exact k (own_max hp) A w U hh hs
end
end Go.Proofs.YtggamdlpiejbiaaGreat
namespace Go.Proofs.YtggamdlpiejbiaaGreat
open Go.RowKit Go.Shelf

instance : AeqT Tryz.prog 48 2 := ⟨by kernel_rfl, by kernel_rfl, by kernel_rfl, by kernel_rfl, by kernel_rfl⟩

theorem Ent.empties {α : Type} {T : Nat} {row : α → List Int} {l F : List HP} (hE : Ent l F) : ∀ (L : List (α × Option Addr × Nat)), (∀ r ∈ L, r.2 = (none, 0) ∧ row r.1 = []) → Ent l ((L.map fun r => own T 1 r.2.1 r.2.2 (row r.1).length (XG (row r.1))) ++ F)
  | [], _ => hE
  | (x, a, c) :: L, h => by
    obtain ⟨h1, h2⟩ := h (x, a, c) (List.mem_cons_self ..)
    simp only [Prod.mk.injEq] at h1
    obtain ⟨rfl, rfl⟩ := h1
    dsimp only at h2
    rw [List.map_cons, List.cons_append, h2]
    exact Ent.own_nil (Ent.empties hE L fun r hr => h r (List.mem_cons_of_mem _ hr))
theorem opnE {α : Type} {f : α → List HP} {F l : List HP} (h : ∀ x, Ent (f x ++ F) l) : Ent (exs f :: F) l := fun w U hs => let ⟨x, hx⟩ := exs_sat hs; h x w U hx
theorem opnP {p : Prop} {F l : List HP} (h : p → Ent F l) : Ent (pur p :: F) l := fun w U hs => h hs.pur w U hs.tail
def evC2 (x : Evt) (a : Option Addr) (c : Nat) : List Value := [.int .i64 x.k, .int .i64 x.c, .int .i64 x.m, .int .i64 x.w, .int .i64 x.h, .slice a x.row.length c]
/-- Events, each with a row of its own. -/
def evR (a : Option Addr) (c : Nat) (evs : List Evt) : HP := rcR 51 6 92 evC2 Evt.row a c evs
theorem evO_rc {v : Value} {evs : List Evt} {F : List HP} (h : EvOk evs) : Ent (evO v evs :: F) (exs (fun p : Option Addr × Nat => [pur (v = .slice p.1 evs.length p.2), evR p.1 p.2 evs]) :: F) := by
  refine opnE fun ⟨a, c, a3, c3⟩ => ?_
  refine opnP fun hv => ?_
  refine Ent.exs (a, c) (Ent.pur hv ?_)
  cases evs with
  | nil =>
    refine Ent.exs [] (Ent.pur rfl ?_)
    simp only [List.flatMap_nil, List.length_nil, List.map_nil]
    exact Ent.cons (Ent.many (Ent.drop (Ent.refl _)))
  | cons x t =>
    have ht : ∀ y ∈ t, y.row = [] := h
    have e1 : ∀ q : Option Addr × Nat, (t.flatMap (evC a3 c3)) = (t.map fun y => (y, ((none : Option Addr), (0 : Nat)))).flatMap fun r => evC2 r.1 r.2.1 r.2.2 := fun _ => by
      clear h hv
      induction t with
      | nil => rfl
      | cons y t ih =>
        rw [List.flatMap_cons, List.map_cons, List.flatMap_cons, ih fun z hz => ht z (List.mem_cons_of_mem _ hz)]
        congr 1
        unfold evC evC2
        rw [ht y (List.mem_cons_self ..)]
        rfl
    have e2 : ∀ r ∈ (t.map fun y => (y, ((none : Option Addr), (0 : Nat)))), r.2 = (none, 0) ∧ r.1.row = [] := by
      intro r hr
      obtain ⟨y, hy, rfl⟩ := List.mem_map.1 hr
      exact ⟨rfl, ht y hy⟩
    have e3 : (t.map fun y => (y, ((none : Option Addr), (0 : Nat)))).map (·.1) = t := by rw [List.map_map]; exact (List.map_congr_left fun _ _ => rfl).trans (List.map_id t)
    by_cases hx : x.row = []
    · refine Ent.exs ((x, none, 0) :: t.map fun y => (y, none, 0)) (Ent.pur (by rw [List.map_cons, e3]) ?_)
      rw [List.flatMap_cons, List.flatMap_cons, e1 (none, 0)]
      have e0 : evC a3 c3 x = evC2 x none 0 := by unfold evC evC2; rw [if_pos hx, hx]; rfl
      rw [e0]
      refine Ent.cons (Ent.many ?_)
      rw [List.map_cons]
      simp only [List.cons_append, hx]
      exact Ent.own_nil (Ent.empties (Ent.drop (Ent.refl _)) _ e2)
    · refine Ent.exs ((x, a3, c3) :: t.map fun y => (y, none, 0)) (Ent.pur (by rw [List.map_cons, e3]) ?_)
      rw [List.flatMap_cons, List.flatMap_cons, e1 (none, 0)]
      have e0 : evC a3 c3 x = evC2 x a3 c3 := by unfold evC evC2; rw [if_neg hx]
      rw [e0]
      refine Ent.cons (Ent.many ?_)
      rw [List.map_cons]
      simp only [List.cons_append]
      exact Ent.cons (Ent.empties (Ent.refl _) _ e2)

theorem SameRowW_spec (As : List HP) (a b : Option Addr) (ca cb : Nat) (xs ys : List Int) (hx : RdsL As a (XG xs)) (hy : RdsL As b (XG ys)) (hl : xs.length ≤ 9223372036854775807) : Fn Tryz.prog 65 #[.slice a xs.length ca, .slice b ys.length cb] As (fun v l => v = .bool (decide (xs = ys)) ∧ l = As) := by
 refine Qo (vs := [.slice a xs.length ca, .slice b ys.length cb]) Tryz.func65 rfl Tryz.ntmps65 rfl (Qb (Qa (Qd rfl rfl (WpL.nil (Qb (Qb (Qa (Qc rfl rfl (QO rfl rfl (Qc rfl rfl (QO rfl rfl (Xu rfl rfl rfl ?_))))))))))))
 refine WpL.nil (Qh rfl (fun h0 => ?_) (fun h0 => ?_))
 ·refine Qb (Qa (Qd rfl rfl (WpL.nil (Qg ?_))))
  apply RetQ.mk
  ·exact (Res.one rfl rfl)
  ·exact ⟨congrArg Value.bool (df fun e => h0 (by rw [e])), rfl⟩
  ·exact Ent.refl _
 ·have hlen : xs.length = ys.length := by omega
  refine Wp.skip (Qb (Qb (Qa (Qd rfl rfl (WpL.nil (Wp.block ?_))))))
  refine Wp.loopD (σ := Nat) (fun k => k ≤ xs.length ∧ xs.take k = ys.take k) [4, 5, 11, 12, 13, 14, 15, 16, 17, 18, 19, 20, 21, 22, 23, 24, 25] (fun k => [(5, .int .i64 (k : Int))]) (fun _ => _) (fun k => xs.length - k) 0 ?_ (by repeat (first | exact FrLe.nil | refine FrLe.cons rfl ?_)) (Ent.refl _) ?_
  ·exact ⟨Nat.zero_le _, rfl⟩
  ·rintro k ⟨hk, htk⟩
   refine Qb (Qb (Qa (Qc rfl rfl (Qc rfl rfl (QO rfl rfl (Xc rfl rfl rfl (WpL.nil (Qh rfl (fun h2 => ?_) (fun h2 => ?_)))))))))
   ·have hkx : k < xs.length := by omega
    have hky : k < ys.length := by omega
    refine Wp.skip (Qb (Wp.block ?_))
    refine Qb ?_
    apply Q3 mixed [⟨17, _, []⟩, ⟨18, _, []⟩, ⟨19, _, [0, 1]⟩, ⟨20, _, [2]⟩, ⟨21, _, []⟩, ⟨22, _, []⟩, ⟨23, _, [4, 5]⟩, ⟨24, _, [6]⟩, ⟨25, _, [3, 7]⟩] rfl
    ·refine AllObs.mk ?_ ?_
     ·exact Qc rfl rfl (Qn rfl)
     refine AllObs.mk ?_ ?_
     ·exact Qc rfl rfl (Qn rfl)
     refine AllObs.mk ?_ ?_
     ·refine Xs k rfl rfl rfl hx (Ent.refl _) rfl (by omega) (by rw [Zf]; exact hkx) ?_
      exact Qn rfl
     refine AllObs.mk ?_ ?_
     ·refine Xv rfl rfl hx (Ent.refl _) (pxs_at xs hkx) ?_
      exact Qn rfl
     refine AllObs.mk ?_ ?_
     ·exact Qc rfl rfl (Qn rfl)
     refine AllObs.mk ?_ ?_
     ·exact Qc rfl rfl (Qn rfl)
     refine AllObs.mk ?_ ?_
     ·refine Xs k rfl rfl rfl hy (Ent.refl _) rfl hky (by rw [Zf]; exact hky) ?_
      exact Qn rfl
     refine AllObs.mk ?_ ?_
     ·refine Xv rfl rfl hy (Ent.refl _) (pxs_at ys hky) ?_
      exact Qn rfl
     refine AllObs.mk ?_ ?_
     ·exact Xu rfl rfl rfl (Qn rfl)
     exact AllObs.nil
    ·refine Qh rfl (fun h3 => ?_) (fun h3 => ?_)
     ·refine Qb (Qa (Qd rfl rfl (WpL.nil (Qg ?_))))
      apply RetQ.mk
      ·exact (Res.one rfl rfl)
      ·exact ⟨congrArg Value.bool (df fun e => h3 (by subst e; rfl)), rfl⟩
      ·exact Ent.refl _
     ·refine Wp.skip (Qa (Qc rfl rfl (Qx rfl rfl rfl (Qp (by omega) (by omega)) ?_)))
      refine Qd rfl rfl (WpL.nil (Qq (k + 1) ?_ ?_ (by ((repeat (first | exact Top.refl | refine Top.push rfl ?_)); done)) (by repeat (first | exact FrLe.nil | refine FrLe.cons rfl ?_)) ?_))
      ·refine ⟨by omega, ?_⟩
       rw [List.take_succ_eq_append_getElem hkx, List.take_succ_eq_append_getElem hky, htk, Classical.not_not.1 h3]
      ·omega
      ·exact Ent.refl _
   ·obtain rfl : k = xs.length := by omega
    have hxy : xs = ys := by rw [List.take_length, hlen, List.take_length] at htk; exact htk
    refine QV (Qb (Qa (Qd rfl rfl (WpL.nil (Qg ?_)))))
    apply RetQ.mk
    ·exact (Res.one rfl rfl)
    ·exact ⟨congrArg Value.bool (dt hxy), rfl⟩
    ·exact Ent.refl _

theorem like_spec (As : List HP) (a : Option Addr) (c : Nat) (y : Evt × Int) (b : Option Addr) (c2 : Nat) (hx : RdsL As a (XG y.1.row)) (hy : RdsL As b (XG y.1.row)) (hl : y.1.row.length ≤ 9223372036854775807) : Fn Tryz.prog 23 #[.agg (evC2 y.1 a c).toArray, .agg (eaC y b c2).toArray] As (fun v l => v = .bool true ∧ l = As) := by
 refine Qo (vs := [.agg (evC2 y.1 a c).toArray, .agg (eaC y b c2).toArray]) Tryz.func23 rfl Tryz.ntmps23 rfl (Qb (Qa (Xf rfl rfl rfl ?_)))
 intro g1
 refine Xf rfl rfl rfl ?_
 intro g2
 refine Qd rfl rfl (WpL.nil (Qb (Qa (Qj (o2 := 0) rfl rfl rfl (Qm rfl rfl (by rfl) ?_)))))
 refine Qj (o2 := 0) rfl rfl rfl (Qm rfl rfl (by rfl) ?_)
 refine QJ rfl rfl rfl (Qc rfl rfl (QB (dj := 10) rfl (decide_eq_true rfl) ?_))
 refine Qf rfl rfl (Qj (o2 := 1) rfl rfl rfl (Qf rfl rfl ?_))
 refine Qz (vs := [_, _]) rfl rfl rfl (by rfl) ?_
 refine Qf rfl rfl (Qj (o2 := 1) rfl rfl rfl (Qf rfl rfl ?_))
 refine Qz (vs := [_, _]) rfl rfl rfl (by rfl) ?_
 refine Qf rfl rfl (s_aeq [y.1.c, y.1.m] [y.1.c, y.1.m] rfl rfl rfl rfl rfl (Qr rfl rfl rfl (Qc rfl rfl (QB (dj := 17) rfl (decide_eq_true rfl) ?_))))
 refine Qf rfl rfl (Qj (o2 := 3) rfl rfl rfl (Qf rfl rfl (Qm rfl rfl (by rfl) ?_)))
 refine Qf rfl rfl (Qj (o2 := 3) rfl rfl rfl (Qf rfl rfl (Qm rfl rfl (by rfl) ?_)))
 refine Qf rfl rfl (QJ rfl rfl rfl (Qr rfl rfl rfl (Qc rfl rfl (QB (dj := 24) rfl (decide_eq_true rfl) ?_))))
 refine Qf rfl rfl (Qj (o2 := 4) rfl rfl rfl (Qf rfl rfl (Qm rfl rfl (by rfl) ?_)))
 refine Qf rfl rfl (Qj (o2 := 4) rfl rfl rfl (Qf rfl rfl (Qm rfl rfl (by rfl) ?_)))
 refine Qf rfl rfl (QJ rfl rfl rfl (Qr rfl rfl rfl (Qc rfl rfl (QB (dj := 31) rfl (decide_eq_true rfl) ?_))))
 refine Qf rfl rfl (Qj (o2 := 5) rfl rfl rfl (Qf rfl rfl (Qm rfl rfl (by rfl) ?_)))
 refine Qf rfl rfl (Qj (o2 := 5) rfl rfl rfl (Qf rfl rfl (Qm rfl rfl (by rfl) ?_)))
 refine Qf rfl rfl (Qk rfl rfl (Take.skip (Take.skip Take.all)) (SameRowW_spec As a b c c2 y.1.row y.1.row hx hy hl) ?_)
 rintro _ _ ⟨rfl, rfl⟩
 refine Qr rfl rfl rfl (Qd rfl rfl (WpL.nil (Qg ?_)))
 apply RetQ.mk
 ·exact (Res.one rfl rfl)
 ·exact ⟨congrArg Value.bool (decide_eq_true rfl), rfl⟩
 ·exact (Take.app rfl).ent'

end Go.Proofs.YtggamdlpiejbiaaGreat
namespace Go.Proofs.YtggamdlpiejbiaaGreat
open Go.RowKit Go.Shelf

theorem readW_cons (K : Int) (W : Nat) (H M : Int) (c : Int) (bs : List Int) (s : RW) (acc : List Int) : Zp K W H M (c :: bs) s acc = if (Xo K W H M s c).1.last = 1 then (acc ++ (Xo K W H M s c).2, 0) else if (Xo K W H M s c).1.last = 2 then ([], (Xo K W H M s c).1.e) else Zp K W H M bs (Xo K W H M s c).1 (acc ++ (Xo K W H M s c).2) := rfl
theorem putW_st {K H M c : Int} {W : Nat} {s : RW} (hl : s.last = 0) : ((Xo K W H M s c).1.last = 0 ∨ (Xo K W H M s c).1.last = 1 ∨ (Xo K W H M s c).1.last = 2) ∧ ((Xo K W H M s c).1.last = 2 → (Xo K W H M s c).1.e = 5 ∧ (Xo K W H M s c).2 = []) := by
  unfold Xo
  rw [if_neg (by omega)]
  repeat' split
  all_goals simp
theorem row_flat (row : List Int) (t : Int) : (atE (XB row) t).flatMap (fun x => x.1.row) = row ∧ ∀ x ∈ atE (XB row) t, x.1.k = 2 := by
  unfold atE XB
  by_cases h : row = [] <;> simp [h]
theorem readW_run (l0 l1 l2 : Int) (h : HS) : ∀ (bs : List Int) (s : RW) (t imgs : Int) (acc : List Int), s.last = 0 →
    ((Zp h.K h.W.toNat h.H h.M bs s acc).2 = 0 ∧ imgs < (QF l0 l1 l2 ⟨some h, 2, .rw s, t, imgs, false, 0⟩ bs).1.imgs ∧ ∃ rows t' rest, (∀ x ∈ rows, x.1.k = 2) ∧ (QF l0 l1 l2 ⟨some h, 2, .rw s, t, imgs, false, 0⟩ bs).2 = rows ++ Zn t' :: rest ∧ (Zp h.K h.W.toNat h.H h.M bs s acc).1 = acc ++ rows.flatMap fun x => x.1.row) ∨
    ((Zp h.K h.W.toNat h.H h.M bs s acc) = ([], 5) ∧ (QF l0 l1 l2 ⟨some h, 2, .rw s, t, imgs, false, 0⟩ bs).1.e = 5 ∧ (QF l0 l1 l2 ⟨some h, 2, .rw s, t, imgs, false, 0⟩ bs).1.imgs = imgs) ∨
    ((Zp h.K h.W.toNat h.H h.M bs s acc) = ([], 6) ∧ (QF l0 l1 l2 ⟨some h, 2, .rw s, t, imgs, false, 0⟩ bs).1.e = 0 ∧ (QF l0 l1 l2 ⟨some h, 2, .rw s, t, imgs, false, 0⟩ bs).1.imgs = imgs)
  | [], s, t, imgs, acc, _ => .inr (.inr ⟨rfl, rfl, rfl⟩)
  | c :: bs, s, t, imgs, acc, hl => by
    have hq := put_rw l0 l1 l2 (h := h) (r := s) (told := t) (imgs := imgs) (c := c)
    have hr := YK l0 l1 l2 (bs := bs) hq
    have hst := putW_st (K := h.K) (W := h.W.toNat) (H := h.H) (M := h.M) (c := c) hl
    have hf := row_flat (Xo h.K h.W.toNat h.H h.M s c).2 (t + 1)
    rw [readW_cons]
    rcases hst.1 with h0 | h1 | h2
    · rw [hr.1 h0, if_neg (by omega), if_neg (by omega)]
      rcases readW_run l0 l1 l2 h bs (Xo h.K h.W.toNat h.H h.M s c).1 (t + 1) imgs (acc ++ (Xo h.K h.W.toNat h.H h.M s c).2) h0 with ⟨g1, g2, rows, t', rest, g3, g4, g5⟩ | g | g
      · refine .inl ⟨g1, g2, atE (XB (Xo h.K h.W.toNat h.H h.M s c).2) (t + 1) ++ rows, t', rest, ?_, ?_, ?_⟩
        · intro x hx
          rcases List.mem_append.1 hx with hx | hx
          · exact hf.2 x hx
          · exact g3 x hx
        · show _ ++ _ = _
          rw [g4, List.append_assoc]
        · rw [g5, List.flatMap_append, hf.1, List.append_assoc]
      · exact .inr (.inl g)
      · exact .inr (.inr g)
    · rw [hr.2.1 h1, if_pos h1]
      refine .inl ⟨rfl, ?_, atE (XB (Xo h.K h.W.toNat h.H h.M s c).2) (t + 1), t + 1, (QF l0 l1 l2 ⟨some h, 0, .no, t + 1, imgs + 1, false, 0⟩ bs).2, hf.2, ?_, ?_⟩
      · show _ < (QF l0 l1 l2 ⟨some h, 0, .no, t + 1, imgs + 1, false, 0⟩ bs).1.imgs
        rw [Vi]
        have : 0 ≤ ZT ((QF l0 l1 l2 ⟨some h, 0, .no, t + 1, imgs + 1, false, 0⟩ bs).2.map (·.1)) := by unfold ZT; omega
        show imgs < imgs + 1 + _
        omega
      · show (_ ++ [_]) ++ _ = _
        rw [List.append_assoc]; rfl
      · show acc ++ _ = acc ++ _
        rw [hf.1]
    · have he := (hst.2 h2).1
      rw [hr.2.2 h2 (by omega), if_neg (by omega), if_pos h2, he]
      exact .inr (.inl ⟨rfl, rfl, rfl⟩)
theorem readW_ind {K H M : Int} {W : Nat} : ∀ (bs : List Int) (b b' : List Int) (n : Nat) (rows e : Int) (acc : List Int), b.length = b'.length → n < b.length → b.take n = b'.take n → Zp K W H M bs ⟨b, n, rows, 0, e⟩ acc = Zp K W H M bs ⟨b', n, rows, 0, e⟩ acc
  | [], _, _, _, _, _, _, _, _, _ => rfl
  | c :: bs, b, b', n, rows, e, acc, hl, hn, ht => by
    have hs : (b.set n c).take (n + 1) = (b'.set n c).take (n + 1) := by
      rw [List.take_set, List.take_set, List.take_succ_eq_append_getElem hn, List.take_succ_eq_append_getElem (show n < b'.length by omega), ht, List.set_append_right _ _ (by rw [List.length_take]; omega), List.set_append_right _ _ (by rw [List.length_take]; omega)]
      rw [show n - (b'.take n).length = 0 by rw [List.length_take]; omega]
      rfl
    have hw := Q7 M
    have hsm : (n + 1) % Qi M = 0 → Xy (Qi M) (b.set n c) ((n + 1) / Qi M - 1) = Xy (Qi M) (b'.set n c) ((n + 1) / Qi M - 1) := fun hm => by
      have hx : ((n + 1) / Qi M - 1 + 1) * Qi M = n + 1 := by rcases hw with e | e <;> rw [e] at hm ⊢ <;> omega
      exact smp_take hw hs (by omega)
    have hsl : (b.set n c).length = (b'.set n c).length := by rw [List.length_set, List.length_set, hl]
    have p : ∀ b : List Int, Xo K W H M ⟨b, n, rows, 0, e⟩ c = (if K ≠ 4 ∧ (n + 1) % Qi M = 0 ∧ Xy (Qi M) (b.set n c) ((n + 1) / Qi M - 1) > M then (⟨b.set n c, n + 1, rows, 2, 5⟩, []) else if n + 1 < b.length then (⟨b.set n c, n + 1, rows, 0, e⟩, []) else (⟨b.set n c, 0, rows + 1, if rows + 1 = H then 1 else 0, e⟩, Yg K W (Qi M) (b.set n c))) := fun b => if_neg (by simp)
    rw [readW_cons, readW_cons, p b, p b']
    by_cases hb : K ≠ 4 ∧ (n + 1) % Qi M = 0 ∧ Xy (Qi M) (b.set n c) ((n + 1) / Qi M - 1) > M
    · have hb' : K ≠ 4 ∧ (n + 1) % Qi M = 0 ∧ Xy (Qi M) (b'.set n c) ((n + 1) / Qi M - 1) > M := ⟨hb.1, hb.2.1, by rw [← hsm hb.2.1]; exact hb.2.2⟩
      rw [if_pos hb, if_pos hb']
      rfl
    · have hb' : ¬ (K ≠ 4 ∧ (n + 1) % Qi M = 0 ∧ Xy (Qi M) (b'.set n c) ((n + 1) / Qi M - 1) > M) := fun q => hb ⟨q.1, q.2.1, by rw [hsm q.2.1]; exact q.2.2⟩
      rw [if_neg hb, if_neg hb']
      by_cases h1 : n + 1 < b.length
      · rw [if_pos h1, if_pos (show n + 1 < b'.length by omega)]
        simp only [show ¬ (0 : Int) = 1 by decide, show ¬ (0 : Int) = 2 by decide, if_false]
        exact readW_ind bs (b.set n c) (b'.set n c) (n + 1) rows e _ hsl (by rw [List.length_set]; exact h1) hs
      · have he : b.set n c = b'.set n c := by
          rw [List.take_of_length_le (by rw [List.length_set]; omega), List.take_of_length_le (by rw [List.length_set]; omega)] at hs
          exact hs
        rw [if_neg h1, if_neg (show ¬ n + 1 < b'.length by omega), he]
theorem badR_leT {K M : Int} {W H : Nat} {R : List Int} : YS K W H M R ≤ ((R.take (Qy K W (Qi M) * H)).length : Int) := by
  by_cases hK : K = 4
  · unfold YS
    rw [if_pos hK]; omega
  · rw [badR_n4 hK]
    rcases ZZ ((Qi M : Nat) : Int) M (Yl (Qi M) (R.take (Qy K W (Qi M) * H))) 0 with ⟨h1, _⟩ | ⟨j, hj, _, _, h3⟩
    · rw [h1]; omega
    · rw [h3]
      have hl : (Yl (Qi M) (R.take (Qy K W (Qi M) * H))).length = (R.take (Qy K W (Qi M) * H)).length / Qi M := by simp [Yl]
      rw [hl] at hj
      have hw := Q7 M
      have : Qi M * (j + 1) ≤ (R.take (Qy K W (Qi M) * H)).length := by
        rcases hw with e | e <;> rw [e] at hj ⊢ <;> omega
      have h4 : ((Qi M * (j + 1) : Nat) : Int) ≤ ((R.take (Qy K W (Qi M) * H)).length : Int) := by exact_mod_cast this
      push_cast at h4
      rw [Int.zero_add]
      omega
def rowsF (K : Int) (W : Nat) (M : Int) (bs : List Int) (n : Nat) : List Int := (List.range n).flatMap fun y => Yg K W (Qi M) ((bs.drop (y * Qy K W (Qi M))).take (Qy K W (Qi M)))
/-- What a raw raster's bytes tell. -/
def rawF (K : Int) (W H : Nat) (M : Int) (bs : List Int) : List Int × Int := if YS K W H M bs > 0 then ([], 5) else if bs.length < Qy K W (Qi M) * H then ([], 6) else (rowsF K W M bs H, 0)
def rowsX (h : HS) (bs : List Int) (y : Nat) : List (Evt × Int) := (List.range y).map fun i => (⟨2, 0, 0, 0, 0, Yg h.K h.W.toNat (Qi h.M) ((bs.drop (0 + i * Qy h.K h.W.toNat (Qi h.M))).take (Qy h.K h.W.toNat (Qi h.M)))⟩, ((0 + (i + 1) * Qy h.K h.W.toNat (Qi h.M) : Nat) : Int))
theorem rowsX_succ (h : HS) (bs : List Int) (y : Nat) : rowsX h bs (y + 1) = rowsX h bs y ++ [(⟨2, 0, 0, 0, 0, Yg h.K h.W.toNat (Qi h.M) ((bs.drop (0 + y * Qy h.K h.W.toNat (Qi h.M))).take (Qy h.K h.W.toNat (Qi h.M)))⟩, ((0 + (y + 1) * Qy h.K h.W.toNat (Qi h.M) : Nat) : Int))] := by unfold rowsX; rw [List.range_succ, List.map_append]; rfl
theorem rowsX_flat (h : HS) (bs : List Int) (y : Nat) : (rowsX h bs y).flatMap (fun x => x.1.row) = rowsF h.K h.W.toNat h.M bs y := by
  unfold rowsX rowsF
  rw [List.flatMap_map]
  simp only [Nat.zero_add]
theorem rowsX_k (h : HS) (bs : List Int) (y : Nat) : ∀ x ∈ rowsX h bs y, x.1.k = 2 := by
  intro x hx
  obtain ⟨i, _, rfl⟩ := List.mem_map.1 hx
  rfl
theorem split3 : ∀ {a b : List (Evt × Int)} {t t' : Int} {r r' : List (Evt × Int)}, (∀ x ∈ a, x.1.k = 2) → (∀ x ∈ b, x.1.k = 2) → a ++ Zn t :: r = b ++ Zn t' :: r' → a = b
  | [], [], _, _, _, _, _, _, _ => rfl
  | x :: a, [], t, t', r, r', h1, _, e => by
    have := (List.cons.inj e).1
    have hk := h1 x (List.mem_cons_self ..)
    rw [this] at hk
    simp [Zn] at hk
  | [], y :: b, t, t', r, r', _, h2, e => by
    have := (List.cons.inj e).1
    have hk := h2 y (List.mem_cons_self ..)
    rw [← this] at hk
    simp [Zn] at hk
  | x :: a, y :: b, t, t', r, r', h1, h2, e => by
    obtain ⟨e1, e2⟩ := List.cons.inj e
    rw [e1, split3 (fun z hz => h1 z (List.mem_cons_of_mem _ hz)) (fun z hz => h2 z (List.mem_cons_of_mem _ hz)) e2]
theorem readW_body {h : HS} (hf : Yo h) (bs : List Int) : ∀ (m y : Nat), m + y = h.H.toNat → rwI 1 1 1 h bs 0 0 y (rowsX h bs y) → y * Qy h.K h.W.toNat (Qi h.M) ≤ bs.length → ¬ (YS h.K h.W.toNat h.H.toNat h.M bs > 0 ∧ YS h.K h.W.toNat h.H.toNat h.M bs ≤ ((y * Qy h.K h.W.toNat (Qi h.M) : Nat) : Int)) →
    Zp h.K h.W.toNat h.H h.M bs (rw0 h) [] = rawF h.K h.W.toNat h.H.toNat h.M bs := by
  have hM := hf.2.2
  unfold XN at hM
  have hble := badR_leT (K := h.K) (M := h.M) (W := h.W.toNat) (H := h.H.toNat) (R := bs)
  rw [List.length_take] at hble
  have hrun := readW_run 1 1 1 h bs (rw0 h) 0 0 [] rfl
  intro m
  induction m with
  | zero =>
    intro y hm hI hy hb
    have hyH : (y : Int) = h.H := by omega
    have hI2 := hI.2 hyH
    rw [List.drop_zero] at hI2
    have hyn : y = h.H.toNat := by omega
    subst hyn
    have hmul : h.H.toNat * Qy h.K h.W.toNat (Qi h.M) = Qy h.K h.W.toNat (Qi h.M) * h.H.toNat := Nat.mul_comm _ _
    have hnb : ¬ YS h.K h.W.toNat h.H.toNat h.M bs > 0 := fun q => hb ⟨q, by rw [hmul]; omega⟩
    unfold rawF
    rw [if_neg hnb, if_neg (by rw [← hmul]; omega)]
    have hpr : QF 1 1 1 ⟨some h, 2, .rw (rw0 h), ((0 : Nat) : Int), 0, false, 0⟩ bs = QF 1 1 1 ⟨some h, 2, .rw (rw0 h), 0, 0, false, 0⟩ bs := rfl
    rcases hrun with ⟨g1, g2, rows, t', rest, g3, g4, g5⟩ | ⟨_, _, g2⟩ | ⟨_, _, g2⟩
    · rw [← hpr, hI2] at g4
      have e := split3 (rowsX_k h bs _) g3 (by rw [← g4]; show _ = (_ ++ [_]) ++ _; rw [List.append_assoc]; rfl)
      subst e
      refine Prod.ext ?_ g1
      rw [g5, rowsX_flat]; rfl
    · exfalso
      rw [← hpr, hI2] at g2
      have q := Vi 1 1 1 (bs.drop (0 + h.H.toNat * Qy h.K h.W.toNat (Qi h.M))) ⟨some h, 0, .no, ((0 + h.H.toNat * Qy h.K h.W.toNat (Qi h.M) : Nat) : Int), 0 + 1, false, 0⟩
      have z : 0 ≤ ZT ((QF 1 1 1 ⟨some h, 0, .no, ((0 + h.H.toNat * Qy h.K h.W.toNat (Qi h.M) : Nat) : Int), 0 + 1, false, 0⟩ (bs.drop (0 + h.H.toNat * Qy h.K h.W.toNat (Qi h.M)))).2.map (·.1)) := by unfold ZT; omega
      simp only [XR] at g2
      rw [g2] at q
      dsimp only at q
      omega
    · exfalso
      rw [← hpr, hI2] at g2
      have q := Vi 1 1 1 (bs.drop (0 + h.H.toNat * Qy h.K h.W.toNat (Qi h.M))) ⟨some h, 0, .no, ((0 + h.H.toNat * Qy h.K h.W.toNat (Qi h.M) : Nat) : Int), 0 + 1, false, 0⟩
      have z : 0 ≤ ZT ((QF 1 1 1 ⟨some h, 0, .no, ((0 + h.H.toNat * Qy h.K h.W.toNat (Qi h.M) : Nat) : Int), 0 + 1, false, 0⟩ (bs.drop (0 + h.H.toNat * Qy h.K h.W.toNat (Qi h.M)))).2.map (·.1)) := by unfold ZT; omega
      simp only [XR] at g2
      rw [g2] at q
      dsimp only at q
      omega
  | succ m ih =>
    intro y hm hI hy hb
    have hyH : (y : Int) < h.H := by omega
    have hy1 : (y + 1) * Qy h.K h.W.toNat (Qi h.M) = y * Qy h.K h.W.toNat (Qi h.M) + Qy h.K h.W.toNat (Qi h.M) := by rw [Nat.add_mul, Nat.one_mul]
    have hbd : bs.drop 0 = bs := List.drop_zero
    by_cases hbb : YS h.K h.W.toNat h.H.toNat h.M bs > 0 ∧ YS h.K h.W.toNat h.H.toNat h.M bs ≤ (((y + 1) * Qy h.K h.W.toNat (Qi h.M) : Nat) : Int)
    · have hBo := rw_bad' (fin := false) hf hI hyH (by rw [hbd]; exact hbb.1) (by rw [hbd]; exact hbb.2) (by rw [hbd]; exact fun q => hb ⟨hbb.1, q⟩)
      obtain ⟨s', e1, e2, _, e4⟩ := hBo.2 (by decide)
      simp only [YT, if_neg (show ¬ false = true by decide)] at e1
      unfold rawF
      rw [if_pos hbb.1]
      have hpr : QF 1 1 1 ⟨some h, 2, .rw (rw0 h), 0, 0, false, 0⟩ bs = (s', rowsX h bs y) := e1
      rw [hpr] at hrun
      rcases hrun with ⟨_, g2, _⟩ | ⟨g, _⟩ | ⟨_, g, _⟩
      · simp only at g2; omega
      · exact g
      · simp only at g; rw [g, if_neg (by decide)] at e2; omega
    · by_cases hl : (y + 1) * Qy h.K h.W.toNat (Qi h.M) ≤ bs.length
      · have hR := rw_row hf hI hyH (by rw [hbd]; exact hbb) (by omega)
        rw [← rowsX_succ] at hR
        exact ih (y + 1) (by omega) hR hl hbb
      · have hBo := rw_short (fin := false) hf hI hyH (by omega) (by rw [hbd]; exact hbb) (by omega)
        obtain ⟨s', e1, e2, _, e4⟩ := hBo.2 (by decide)
        simp only [YT, if_neg (show ¬ false = true by decide)] at e1
        have hpr : QF 1 1 1 ⟨some h, 2, .rw (rw0 h), 0, 0, false, 0⟩ bs = (s', rowsX h bs y) := e1
        have hyl : (y + 1) * Qy h.K h.W.toNat (Qi h.M) ≤ h.H.toNat * Qy h.K h.W.toNat (Qi h.M) := Nat.mul_le_mul_right _ (by omega)
        have hmul : h.H.toNat * Qy h.K h.W.toNat (Qi h.M) = Qy h.K h.W.toNat (Qi h.M) * h.H.toNat := Nat.mul_comm _ _
        unfold rawF
        rw [if_neg (fun q => hbb ⟨q, by omega⟩), if_pos (by omega)]
        rw [hpr] at hrun
        rcases hrun with ⟨_, g2, _⟩ | ⟨_, g, _⟩ | ⟨g, _⟩
        · simp only at g2; omega
        · simp only at g
          rw [g] at e2
          simp at e2
        · exact g
/-- A raw raster read at once, whatever its row was before. -/
theorem readW_raw {h : HS} (hf : Yo h) (bs b0 : List Int) (hb : b0.length = Qy h.K h.W.toNat (Qi h.M)) (hp : 0 < b0.length) : Zp h.K h.W.toNat h.H h.M bs ⟨b0, 0, 0, 0, 0⟩ [] = rawF h.K h.W.toNat h.H.toNat h.M bs := by
  have hM := hf.2.2
  unfold XN at hM
  rw [← readW_body hf bs h.H.toNat 0 (by omega) (rwI0 (by omega)) (by omega) (fun q => by have := q.2; simp at this; omega)]
  exact readW_ind bs b0 _ 0 0 0 [] (by rw [hb]; simp) hp (by simp)

end Go.Proofs.YtggamdlpiejbiaaGreat
namespace Go.Proofs.YtggamdlpiejbiaaGreat
open Go.RowKit Go.Shelf

theorem Zw (l0 l1 l2 : Int) {h : HS} {c n : Int} {bs : List Int} (h0 : (QU l0 l1 l2 h c).last = 0) : Q9 l0 l1 l2 h (c :: bs) n = Q9 l0 l1 l2 (QU l0 l1 l2 h c) bs (n + 1) := by rw [Q9, if_neg (by omega)]
theorem hdRun_fin (l0 l1 l2 : Int) {h : HS} {c n : Int} {bs : List Int} (h0 : (QU l0 l1 l2 h c).last ≠ 0) : Q9 l0 l1 l2 h (c :: bs) n = (QU l0 l1 l2 h c, n + 1) := by rw [Q9, if_pos h0]
end Go.Proofs.YtggamdlpiejbiaaGreat
