/- Walks and plain laws, a part of the proof of PnmAll: every input that the law's guards let in, no condition beside. -/
import Derived.Laws.StructEq
import Derived.ChangeKeysEq
import Derived.Test.YtggamdlpiejbiaaGreatM26
namespace Go.Proofs.YtggamdlpiejbiaaGreat
open Go.RowKit Go.Shelf


theorem fit_can {p C M : Int} (hf : FmtP C M) (h : Can C M p) : FitP p C M := ⟨hf, h.1, fun n hn => (h.2.2 n hn).2⟩
theorem kinds_mem {C M k : Int} (h : k ∈ Xi C M) : FmtP C M ∧ (1 ≤ k ∧ k ≤ 6) ∧ QY k = C ∧ ((k = 1 ∨ k = 4) → M = 1) := by
  unfold Xi at h
  split at h
  · rename_i hf
    obtain ⟨i, hi, rfl⟩ := List.mem_map.1 h
    obtain ⟨h1, h2⟩ := List.mem_filter.1 hi
    unfold kP at h2
    simp only [Bool.and_eq_true, decide_eq_true_eq] at h2
    have h3 := List.mem_range.1 h1
    refine ⟨hf, by omega, ?_, by omega⟩
    have := hf.1
    unfold QY
    split <;> omega
  · simp at h
theorem good_sz {most : Int} {m : Img} (hmo : most ≤ 100) (h : GoodI most m) : (0 ≤ m.w * m.h ∧ m.w * m.h ≤ 10000) ∧ m.px.length ≤ 10000 := by
  obtain ⟨_, _, hw, hh, hl, _⟩ := h
  have h1 : m.w * m.h ≤ 100 * 100 := Int.mul_le_mul (by omega) (by omega) (by omega) (by omega)
  have h2 : 0 ≤ m.w * m.h := Int.mul_nonneg (by omega) (by omega)
  omega
theorem good_fits {most : Int} {m : Img} {k : Int} (hmo : most ≤ 100) (h : GoodI most m) (hk : k ∈ Xi m.c m.m) : XZ k m.w m.h m.m ∧ (∀ p ∈ m.px, FitP p (QY k) m.m) ∧ FitsM m.c m.m m.w m.h m.px := by
  obtain ⟨hf, hk6, hc, h1⟩ := kinds_mem hk
  have hz := good_sz hmo h
  obtain ⟨_, hm, hw, hh, hl, hp⟩ := h
  refine ⟨⟨hk6, by omega, by omega, hm, h1⟩, fun p hpp => by rw [hc]; exact fit_can hf (hp p hpp).1, ⟨by omega, by omega, by omega⟩, hl, fun p hpp => fit_can hf (hp p hpp).1⟩
/-- An image's bytes. -/
def wrI (m : Img) (k : Int) : List Int := hdW k m.w m.h m.m ++ (if k < 4 then wrL k m.w 0 m.px else Zf k m.w.toNat (Qk m.m) m.px m.h.toNat)
theorem hdW_len {K W H M : Int} (hK : K ≤ 6) (hW : W ≤ 100) (hH : H ≤ 100) (hM : M ≤ 65535) : (hdW K W H M).length ≤ 100000 := by
  have h1 := Zh K.toNat
  have h2 := Zh W.toNat
  have h3 := Zh H.toNat
  have h4 := Zh M.toNat
  unfold hdW
  simp only [List.length_append, List.length_cons, List.length_nil]
  split <;> simp only [List.length_append, List.length_cons, List.length_nil] <;> omega

theorem rWrite10_spec (A0 : HP) (m : Img) (a : Option Addr) (c : Nat) (hA : RdsL [A0] a (Xy m.px)) (most : Int) (hmo : most ≤ 100) (hg : GoodI most m) (k : Int) (hk : k ∈ Xi m.c m.m) : Fn Tryz.prog 34 #[.agg #[.int .i64 m.c, .int .i64 m.m, .int .i64 m.w, .int .i64 m.h, .slice a m.px.length c], .int .i64 k] [A0] (fun v l => ∃ B b e, RdsL [B] b (XM (wrI m k)) ∧ v = .tuple #[.slice b (wrI m k).length e, .int .i64 0] ∧ l = [B, A0]) := by
 obtain ⟨hMay, hfit, hfm⟩ := good_fits hmo hg hk
 obtain ⟨hz1, hz2⟩ := good_sz hmo hg
 have hb : ∀ p ∈ m.px, 0 ≤ p ∧ p < 18446744073709551616 := fun p hp => (hg.2.2.2.2.2 p hp).2
 have hM2 := hMay
 unfold XZ at hM2
 obtain ⟨_, hg2, hgw, hgh, hgl, _⟩ := id hg
 have hWn : ((m.w.toNat : Nat) : Int) = m.w := by omega
 have hHn : ((m.h.toNat : Nat) : Int) = m.h := by omega
 have hz6 := hdW_len (K := k) (W := m.w) (H := m.h) (M := m.m) (by omega) (by omega) (by omega) (by omega)
 refine Qo (vs := [.agg #[.int .i64 m.c, .int .i64 m.m, .int .i64 m.w, .int .i64 m.h, .slice a m.px.length c], .int .i64 k]) Tryz.func34 rfl Tryz.ntmps34 rfl (Qb (Qa (Xb rfl rfl rfl ?_)))
 intro gI
 refine Qd rfl rfl (Qd rfl rfl (WpL.nil (Qb (Qa ?_))))
 refine Qx (vs := [_, _, _, _, _]) rfl rfl rfl (by rfl) ?_
 refine Qc rfl rfl (Qj rfl rfl (by repeat' constructor) (rTells_spec [A0] m.c m.m m.w m.h a c m.px hA hb (by omega) k) ?_)
 rintro _ _ ⟨rfl, rfl⟩
 simp only [Qv]
 refine Qd rfl rfl (WpL.nil (Qb (Qb (Qa (Qc rfl rfl (Yq rfl rfl (WpL.nil (Qh rfl (fun h0 => ?_) (fun h0 => ?_)))))))))
 ·exfalso; exact absurd ⟨hk, hfm⟩ h0
 ·refine Wp.skip (Qb (Qa (Qc rfl rfl (Qi (o2 := 2) rfl rfl rfl (Qi (o2 := 2) rfl rfl rfl (Qn rfl rfl (by rfl) ?_))))))
  refine Qi (o2 := 2) rfl rfl rfl (Qi (o2 := 3) rfl rfl rfl (Qn rfl rfl (by rfl) ?_))
  refine Qi (o2 := 0) rfl rfl rfl (Qi (o2 := 1) rfl rfl rfl (Qn rfl rfl (by rfl) ?_))
  refine Xj rfl rfl ?_
  refine X1 rfl ?_
  intro gH
  refine QG rfl rfl rfl (by rfl) rfl ?_
  refine WpL.nil (Qb (Qa ?_))
  refine Qx (vs := [_, _, _, _]) rfl rfl rfl (by rfl) ?_
  refine Qj rfl rfl (by repeat' constructor) (rWrite06_spec _ _ _ _ hMay) ?_
  rintro _ _ ⟨s6, hs6, rfl, rfl⟩
  simp only [Qv]
  have hs6z : s6.size ≤ 100000 := by rw [← Q8, hs6]; exact hz6
  refine Qc rfl rfl (QK rfl rfl rfl (QK rfl rfl rfl (Qd rfl rfl (Qd rfl rfl (WpL.nil (Qb (Qb (Qa (Qc rfl rfl (Q9 rfl rfl rfl (WpL.nil (Qh rfl (fun h1 => ?_) (fun h1 => ?_)))))))))))))
  ·refine Qb (Qa (Qi (o2 := 2) rfl rfl rfl (Qi (o2 := 4) rfl rfl rfl (Qn rfl rfl (by rfl) ?_))))
   refine Qx (vs := [_, _, _, _]) rfl rfl rfl (by rfl) ?_
   refine Qj rfl rfl (by repeat' constructor) (rWrite_spec A0 a c m.px hA hb (by omega) k m.w m.h m.m) ?_
   rintro _ _ ⟨s8, e8, rfl, hs8, rfl⟩
   simp only [Qv]
   obtain ⟨_, rfl, hs8, hz8⟩ : WrP k m.w m.h m.m m.px ∧ e8 = 0 ∧ QW s8 = wrL k m.w 0 m.px ∧ s8.size ≤ m.px.length * 300000 := by
    rcases hs8 with q | q
    ·exact q
    ·exact absurd (⟨⟨hMay, by omega⟩, hgl, hfit⟩ : WrP k m.w m.h m.m m.px) q.1
   refine Qc rfl rfl (QK rfl rfl rfl (QK rfl rfl rfl (Qd rfl rfl (Qd rfl rfl (WpL.nil (Qb (Qa (Qc rfl rfl (Qc rfl rfl (Zn rfl rfl rfl (by omega) ?_))))))))))
   refine s_t2b rfl Tryz.underlying9 Tryz.underlying22 Tryz.underlying5 rfl ?_
   intro gB cB
   rw [show QW (s6 ++ s8) = wrI m k by rw [Yx, hs6, hs8, wrI, if_pos (by omega)]]
   refine Qd rfl rfl (Qd rfl rfl (WpL.nil (Qg ?_)))
   apply RetQ.mk
   ·exact (QT rfl rfl rfl)
   ·exact ⟨rdo gB _, _, cB, RdsL.rdo, rfl, rfl⟩
   ·exact Take.ent' (by repeat' constructor)
  ·have hpl : m.px.length = m.w.toNat * m.h.toNat := by
    have q : ((m.w.toNat * m.h.toNat : Nat) : Int) = m.w * m.h := by rw [Int.natCast_mul, hWn, hHn]
    omega
   have hw9 := rWrite09_spec A0 a c m.px hA hb k m.w.toNat m.h.toNat m.m (by rw [hWn, hHn]; exact ⟨hMay, by omega⟩) hpl hfit (by omega)
   rw [hWn, hHn] at hw9
   have hwl := wrRaw_len (K := k) (w := Qk m.m) (Xd m.m) hpl (fun p hp => by have := can_fit (hfit p hp); omega) m.h.toNat (Nat.le_refl _)
   have hsb := X8 (K := k) (W := m.w.toNat) (Xd m.m) (by omega) (by omega)
   have hwl2 : (Zf k m.w.toNat (Qk m.m) m.px m.h.toNat).length ≤ 24576 * 100 := by rw [hwl]; exact Nat.mul_le_mul hsb.2 (by omega)
   refine Wp.skip (Qb (Qa (Qi (o2 := 2) rfl rfl rfl (Qi (o2 := 4) rfl rfl rfl (Qn rfl rfl (by rfl) ?_)))))
   refine Qx (vs := [_, _, _, _]) rfl rfl rfl (by rfl) ?_
   refine Qj rfl rfl (by repeat' constructor) (hw9) ?_
   rintro _ _ ⟨a9, c9, rfl, rfl⟩
   simp only [Qv]
   refine Qc rfl rfl (QK rfl rfl rfl (QK rfl rfl rfl (Qd rfl rfl (Qd rfl rfl (WpL.nil (Qb (Qa (Qd rfl rfl (WpL.nil (Qb (Qa (Qc rfl rfl ?_))))))))))))
   refine Qc rfl rfl (s_t2b rfl Tryz.underlying9 Tryz.underlying22 Tryz.underlying5 rfl ?_)
   intro gB cB
   rw [hs6]
   refine WpL.ent (Ent.own_nil (T := 5) (s := 1) (Ent.refl _)) ?_
   refine s_appR (xs := []) (m2 := (hdW k m.w m.h m.m).length) rfl rfl rfl (by repeat' constructor) RdsL.rdo (by exact Take.ent' (by repeat' constructor)) (by rw [XA, Nat.mul_one]) (by rfl) (by rfl) (u8s_one _) (by omega) (by omega) ?_
   intro a61 c61
   rw [List.nil_append, Nat.zero_add]
   refine Qd rfl rfl (WpL.nil (Qb (Qa (Qc rfl rfl (Qc rfl rfl (s_appo rfl rfl rfl (by repeat' constructor) (by rfl) (by rfl) (u8s_one _) (by omega) (by omega) ?_))))))
   intro a64 c64
   rw [u8s_app, ← List.length_append, show hdW k m.w m.h m.m ++ Zf k m.w.toNat (Qk m.m) m.px m.h.toNat = wrI m k by rw [wrI, if_neg (by omega)]]
   refine Qd rfl rfl (Qd rfl rfl (WpL.nil (Qg ?_)))
   apply RetQ.mk
   ·exact (QT rfl rfl rfl)
   ·exact ⟨own 5 1 a64 c64 (wrI m k).length (XM (wrI m k)), a64, c64, Q6, rfl, rfl⟩
   ·exact Take.ent' (by repeat' constructor)

end Go.Proofs.YtggamdlpiejbiaaGreat
namespace Go.Proofs.YtggamdlpiejbiaaGreat
open Go.RowKit Go.Shelf


/-- Images' bytes, joined. -/
def Ze : List Img → List Int → List Int
  | m :: ms, k :: ks => wrI m k ++ (if k < 4 then [10] else []) ++ Ze ms ks
  | _, _ => []
theorem joinI_snoc {m : Img} {k : Int} : ∀ {ms : List Img} {ks : List Int}, ms.length = ks.length → Ze (ms ++ [m]) (ks ++ [k]) = Ze ms ks ++ wrI m k ++ (if k < 4 then [10] else [])
  | [], [], _ => by simp [Ze]
  | a :: ms, b :: ks, h => by
    simp only [List.cons_append, Ze]
    rw [joinI_snoc (by simpa using h)]
    simp only [List.append_assoc]
  | [], _ :: _, h => by simp at h
  | _ :: _, [], h => by simp at h
theorem wrI_len {most : Int} {m : Img} {k : Int} (hmo : most ≤ 100) (hg : GoodI most m) (hk : k ∈ Xi m.c m.m) : (wrI m k).length ≤ 3000000 := by
  obtain ⟨hMay, hfit, hfm⟩ := good_fits hmo hg hk
  obtain ⟨hz1, hz2⟩ := good_sz hmo hg
  have hM2 := hMay
  unfold XZ at hM2
  obtain ⟨_, hg2, hgw, hgh, hgl, _⟩ := id hg
  have hz6 := hdW_len (K := k) (W := m.w) (H := m.h) (M := m.m) (by omega) (by omega) (by omega) (by omega)
  have hWn : ((m.w.toNat : Nat) : Int) = m.w := by omega
  have hHn : ((m.h.toNat : Nat) : Int) = m.h := by omega
  have hpl : m.px.length = m.w.toNat * m.h.toNat := by
    have q : ((m.w.toNat * m.h.toNat : Nat) : Int) = m.w * m.h := by rw [Int.natCast_mul, hWn, hHn]
    omega
  have hwl := wrRaw_len (K := k) (w := Qk m.m) (Xd m.m) hpl (fun p hp => by have := can_fit (hfit p hp); omega) m.h.toNat (Nat.le_refl _)
  have hsb := X8 (K := k) (W := m.w.toNat) (Xd m.m) (by omega) (by omega)
  have hwl2 : (Zf k m.w.toNat (Qk m.m) m.px m.h.toNat).length ≤ 24576 * 100 := by rw [hwl]; exact Nat.mul_le_mul hsb.2 (by omega)
  have h8 := wrL_len (K := k) (W := m.w) m.px 0
  unfold wrI
  rw [List.length_append]
  split <;> omega

theorem rJoin_spec (A1 A0 A2 : HP) (la : Option Addr) (lc : Nat) (L : List (Img × Option Addr × Nat)) (hL : RdsL [A1] la (L.flatMap iC)) (hpx : ∀ r ∈ L, RdsL [A0] r.2.1 (Xy r.1.px)) (most : Int) (hmo : most ≤ 100) (hgd : ∀ r ∈ L, GoodI most r.1) (hl : L.length ≤ 1000) (ka : Option Addr) (kc : Nat) (ks : List Int) (hk : RdsL [A2] ka (Q3 ks)) (hko : KindsOk (L.map (·.1)) ks) : Fn Tryz.prog 26 #[.slice la L.length lc, .slice ka ks.length kc] [A1, A0, A2] (fun v l => ∃ a c, v = .tuple #[.slice a (Ze (L.map (·.1)) ks).length c, .int .i64 0] ∧ l = [own 5 1 a c (Ze (L.map (·.1)) ks).length (XM (Ze (L.map (·.1)) ks)), A1, A0, A2]) := by
 have hll : L.length = ks.length := by rw [← hko.len, List.length_map]
 refine Qo (vs := [.slice la L.length lc, .slice ka ks.length kc]) Tryz.func26 rfl Tryz.ntmps26 rfl (Qb (Qa (Qd rfl rfl (Qd rfl rfl (WpL.nil (Qb (Qa (Qd rfl rfl (WpL.nil (Qb (Qb (Qa ?_))))))))))))
 refine Qc rfl rfl (QM rfl rfl (Qc rfl rfl (QM rfl rfl (Xs rfl rfl rfl (WpL.nil (Qy rfl (fun hn => hn (by omega)) ?_))))))
 refine Wp.skip (Qb (Qb (Qa (Qd rfl rfl (WpL.nil (Wp.block ?_))))))
 refine Wp.loopD (σ := KdX) (fun x => x.k ≤ L.length ∧ x.out = Ze ((L.take x.k).map (·.1)) (ks.take x.k) ∧ x.out.length ≤ x.k * 3000001) [4, 5, 6, 7, 8, 9, 15, 16, 17, 18, 19, 20, 21, 22, 23, 24, 25, 26, 27, 28, 29, 30, 31, 32, 33, 34, 35, 36, 37, 38, 39, 40, 41, 42, 43, 44, 45, 46] (fun x => [(7, .int .i64 (x.k : Int)), (6, .slice x.a x.out.length x.c)]) (fun x => [own 5 1 x.a x.c x.out.length (XM x.out), A1, A0, A2]) (fun x => L.length - x.k) ⟨0, [], none, 0⟩ ?_ (by repeat (first | exact FrLe.nil | refine FrLe.cons rfl ?_)) ?_ ?_
 ·exact ⟨Nat.zero_le _, rfl, Nat.zero_le _⟩
 ·exact Ent.own_nil (Ent.refl _)
 ·rintro ⟨k, out, a, c⟩ ⟨hk1, ho, hol⟩
  dsimp only at hk1 ho hol ⊢
  refine Qb (Qb (Qa (Qc rfl rfl (Qc rfl rfl (QM rfl rfl (Q9 rfl rfl rfl (WpL.nil (Qh rfl (fun h2 => ?_) (fun h2 => ?_)))))))))
  ·have hlt : k < L.length := by omega
   have hlk : k < ks.length := by omega
   have hkm := hko.get k (by rw [List.length_map]; exact hlt) hlk
   rw [List.getElem_map] at hkm
   have hgk := hgd _ (List.getElem_mem hlt)
   have hwl := wrI_len hmo hgk hkm
   have hsn : Ze ((L.take (k + 1)).map (·.1)) (ks.take (k + 1)) = Ze ((L.take k).map (·.1)) (ks.take k) ++ (wrI L[k].1 ks[k]) ++ (if ks[k] < 4 then [10] else []) := by
    rw [X7 L hlt, X7 ks hlk, List.map_append]
    exact joinI_snoc (by rw [List.length_map, List.length_take, List.length_take]; omega)
   refine Wp.skip (Qb (Wp.block ?_))
   refine Qb ?_
   apply Xe (fB := []) mixed [(8, false)] (by kernel_rfl)
   apply Q4 [⟨0, 22, _, [], false⟩, ⟨1, 23, _, [], false⟩, ⟨2, 24, _, [0, 1], false⟩, ⟨3, 25, _, [2], false⟩, ⟨4, 26, _, [], false⟩, ⟨5, 27, _, [], false⟩, ⟨6, 28, _, [4, 5], false⟩, ⟨7, 29, _, [6], false⟩] [] [0, 1, 2, 3, 4, 5, 6, 7] [21, 31, 32, 8, 9] (.inr rfl) rfl rfl rfl (by kernel_rfl) rfl rfl rfl
   ·refine AllF.cons rfl rfl rfl rfl ?_ ?_
    ·exact Qc rfl rfl (Qm rfl)
    refine AllF.cons rfl rfl rfl rfl ?_ ?_
    ·exact Qc rfl rfl (Qm rfl)
    refine AllF.cons rfl rfl rfl rfl ?_ ?_
    ·refine s_ixR (s := 5) k rfl rfl rfl hL (by exact Take.ent' (by repeat' constructor)) rfl (by omega) (iC_ne (by omega)) ?_
     exact Qm rfl
    refine AllF.cons rfl rfl rfl rfl ?_ ?_
    ·refine s_ldaX (vs := iC L[k]) rfl rfl hL (by exact Take.ent' (by repeat' constructor)) (iC_ne (by omega)) rfl (Zi (s := 5) (f := iC) (fun _ => rfl) L k hlt) ?_
     exact Qm rfl
    refine AllF.cons rfl rfl rfl rfl ?_ ?_
    ·exact Qc rfl rfl (Qm rfl)
    refine AllF.cons rfl rfl rfl rfl ?_ ?_
    ·exact Qc rfl rfl (Qm rfl)
    refine AllF.cons rfl rfl rfl rfl ?_ ?_
    ·refine Xo k rfl rfl rfl hk (by exact Take.ent' (by repeat' constructor)) rfl (by omega) (by rw [Xn]; omega) ?_
     exact Qm rfl
    refine AllF.cons rfl rfl rfl rfl ?_ ?_
    ·refine Xp rfl rfl hk (by exact Take.ent' (by repeat' constructor)) (XN ks hlk) ?_
     exact Qm rfl
    exact AllF.nil
   ·refine Qj rfl rfl (by repeat' constructor) (rWrite10_spec A0 L[k].1 L[k].2.1 L[k].2.2 (hpx _ (List.getElem_mem hlt)) most hmo hgk ks[k] hkm) ?_
    rintro _ _ ⟨B, b8, e8, hB, rfl, rfl⟩
    simp only [Qv]
    refine WpL.nil ⟨rfl, rfl, ?_⟩
    apply GoR.nil [⟨9, 21, _, [8], false⟩, ⟨10, 31, _, [9], false⟩, ⟨11, 32, _, [9], false⟩, ⟨12, 8, _, [0, 1, 2, 3, 4, 5, 6, 7, 8, 9, 10], false⟩, ⟨13, 9, _, [0, 1, 2, 3, 4, 5, 6, 7, 8, 9, 10, 11, 12], false⟩] (.inr rfl) rfl rfl
    ·refine AllF.cons rfl rfl rfl rfl ?_ ?_
     ·exact Qc rfl rfl (Qm rfl)
     refine AllF.cons rfl rfl rfl rfl ?_ ?_
     ·exact QK rfl rfl rfl (Qm rfl)
     refine AllF.cons rfl rfl rfl rfl ?_ ?_
     ·exact QK rfl rfl rfl (Qm rfl)
     refine AllF.cons rfl rfl rfl rfl ?_ ?_
     ·exact Qd rfl rfl (Qm rfl)
     refine AllF.cons rfl rfl rfl rfl ?_ ?_
     ·exact Qd rfl rfl (Qm rfl)
     exact AllF.nil
    ·refine Qb (Qb (Qa (Qc rfl rfl (Xs rfl rfl rfl (WpL.nil (Qy rfl (by decide) (Wp.skip (Qb (Qa (Qc rfl rfl (Qc rfl rfl (s_appR (m2 := (wrI L[k].1 ks[k]).length) rfl rfl rfl (by repeat' constructor) hB (by exact Take.ent' (by repeat' constructor)) (by rw [XA, Nat.mul_one]) (by rfl) (by rfl) (u8s_one _) (by omega) (by omega) ?_))))))))))))
     intro a38 c38
     rw [u8s_app, ← List.length_append]
     have hl38 : (out ++ (wrI L[k].1 ks[k])).length = out.length + (wrI L[k].1 ks[k]).length := List.length_append
     refine Qd rfl rfl (WpL.nil (Qb (Qa (Qc rfl rfl (Qc rfl rfl (Xo k rfl rfl rfl hk (by exact Take.ent' (by repeat' constructor)) rfl (by omega) (by rw [Xn]; omega) ?_))))))
     refine Xp rfl rfl hk (by exact Take.ent' (by repeat' constructor)) (XN ks hlk) ?_
     refine Q9 rfl rfl rfl (WpL.nil (Qh rfl (fun h4 => ?_) (fun h4 => ?_)))
     ·refine Qa (Qc rfl rfl ?_)
      refine X6 rfl rfl rfl rfl ?_
      intro g1
      refine Xx rfl rfl rfl (by repeat' constructor) (by rfl) (by rfl) (by rfl) (by rfl) (by omega) (by omega) ?_
      intro a46 c46
      rw [u8s_snoc, show (out ++ (wrI L[k].1 ks[k])).length + 1 = ((out ++ (wrI L[k].1 ks[k])) ++ [10]).length from by simp only [List.length_append, List.length_cons, List.length_nil, Nat.zero_add]]
      refine Qd rfl rfl (WpL.nil (Qa (Qc rfl rfl (Qw rfl rfl rfl (Qp (by omega) (by omega)) ?_))))
      refine Qd rfl rfl (WpL.nil (Qq (⟨k + 1, out ++ (wrI L[k].1 ks[k]) ++ [10], a46, c46⟩ : KdX) ?_ ?_ (by ((repeat (first | exact Top.refl | refine Top.push rfl ?_)); done)) (by repeat (first | exact FrLe.nil | refine FrLe.cons rfl ?_)) ?_))
      ·exact ⟨by simp only; omega, by simp only; rw [hsn, if_pos (by omega), ho], by simp only [List.length_append, List.length_cons, List.length_nil]; omega⟩
      ·simp only; omega
      ·exact Take.ent' (by repeat' constructor)
     ·refine Wp.skip (Qa (Qc rfl rfl (Qw rfl rfl rfl (Qp (by omega) (by omega)) ?_)))
      refine Qd rfl rfl (WpL.nil (Qq (⟨k + 1, out ++ (wrI L[k].1 ks[k]), a38, c38⟩ : KdX) ?_ ?_ (by ((repeat (first | exact Top.refl | refine Top.push rfl ?_)); done)) (by repeat (first | exact FrLe.nil | refine FrLe.cons rfl ?_)) ?_))
      ·exact ⟨by simp only; omega, by simp only; rw [hsn, if_neg (by omega), List.append_nil, ho], by simp only [List.length_append]; omega⟩
      ·simp only; omega
      ·exact Take.ent' (by repeat' constructor)
  ·have hkE : k = L.length := by omega
   rw [hkE, List.take_length, hll, List.take_length] at ho
   subst ho
   refine QS (Qb (Qa (Qc rfl rfl (Qd rfl rfl (Qd rfl rfl (WpL.nil (Qg ?_)))))))
   apply RetQ.mk
   ·exact (QT rfl rfl rfl)
   ·exact ⟨a, c, rfl, rfl⟩
   ·exact Ent.refl _

end Go.Proofs.YtggamdlpiejbiaaGreat
namespace Go.Proofs.YtggamdlpiejbiaaGreat
open Go.RowKit Go.Shelf


theorem joinI_bd {most : Int} (hmo : most ≤ 100) : ∀ {ms : List Img} {ks : List Int}, KindsOk ms ks → (∀ m ∈ ms, GoodI most m) → (Ze ms ks).length ≤ ms.length * 3000001
  | [], [], _, _ => by simp [Ze]
  | m :: ms, k :: ks, ⟨h1, h2⟩, hg => by
    have ih := joinI_bd hmo h2 fun x hx => hg x (List.mem_cons_of_mem _ hx)
    have hw := wrI_len hmo (hg m (List.mem_cons_self ..)) h1
    simp only [Ze, List.length_append, List.length_cons]
    split <;> simp only [List.length_cons, List.length_nil] <;> omega
theorem hdW_bd {K W H M : Int} : ∀ b ∈ hdW K W H M, 0 ≤ b ∧ b ≤ 255 := by
  intro b hb
  unfold hdW at hb
  have hd : ∀ n, b ∈ Y6 n → 0 ≤ b ∧ b ≤ 255 := fun n h => by have := digs_bd n b h; omega
  simp only [List.mem_append, List.mem_singleton] at hb
  rcases hb with ((((((h | h) | h) | h) | h) | h) | h) | h
  · omega
  · exact hd _ h
  · omega
  · exact hd _ h
  · omega
  · exact hd _ h
  · omega
  · split at h
    · simp at h
    · rcases List.mem_append.1 h with h | h
      · exact hd _ h
      · have := List.mem_singleton.1 h; omega

end Go.Proofs.YtggamdlpiejbiaaGreat
namespace Go.Proofs.YtggamdlpiejbiaaGreat
open Go.RowKit Go.Shelf


theorem wrI_byte {most : Int} {m : Img} {k : Int} (_hmo : most ≤ 100) (hg : GoodI most m) (hk : k ∈ Xi m.c m.m) : ∀ b ∈ wrI m k, 0 ≤ b ∧ b ≤ 255 := by
  intro b hb
  obtain ⟨_, _, hc, h4⟩ := kinds_mem hk
  unfold wrI at hb
  rcases List.mem_append.1 hb with h | h
  · exact hdW_bd b h
  · split at h
    · exact wrL_byte _ _ b h
    · exact wrRaw_bd hg.2.1 (fun q => h4 (.inr q)) (fun p hp => by rw [hc]; exact (hg.2.2.2.2.2 p hp).1) b h
theorem joinI_byte {most : Int} (hmo : most ≤ 100) : ∀ {ms : List Img} {ks : List Int}, KindsOk ms ks → (∀ m ∈ ms, GoodI most m) → ∀ b ∈ Ze ms ks, 0 ≤ b ∧ b ≤ 255
  | [], [], _, _ => by simp [Ze]
  | m :: ms, k :: ks, ⟨h1, h2⟩, hg => by
    intro b hb
    simp only [Ze] at hb
    rcases List.mem_append.1 hb with hb | hb
    · rcases List.mem_append.1 hb with hb | hb
      · exact wrI_byte hmo (hg m (List.mem_cons_self ..)) h1 b hb
      · split at hb
        · have := List.mem_singleton.1 hb; omega
        · simp at hb
    · exact joinI_byte hmo h2 (fun x hx => hg x (List.mem_cons_of_mem _ hx)) b hb
/-- A stream's four texts. -/
def strT (own tn : List Int) : Prop := own.length ≤ 10000000 ∧ (∀ b ∈ own, 0 ≤ b ∧ b ≤ 255) ∧ tn.length = own.length ∧ ∀ b ∈ tn, 0 ≤ b ∧ b ≤ 255
theorem byte_set {xs : List Int} {k : Nat} {c : Int} (h : ∀ b ∈ xs, 0 ≤ b ∧ b ≤ 255) (hc : 0 ≤ c ∧ c ≤ 255) : ∀ b ∈ xs.set k c, 0 ≤ b ∧ b ≤ 255 := by
  intro b hb
  rcases List.mem_or_eq_of_mem_set hb with h1 | h1
  · exact h b h1
  · rw [h1]; exact hc
theorem s_bs4 {P : Program} {n : Cx} {D : List Deferred} {ops : Array Oper} {rest : List Oper} {Q : Post} {fr : Fr} {l : List HP} {ty : Nat} {pos : String} {aft : Array Edge} {d t e by_ : Nat} {z v v2 v3 v4 : Value} {x x2 x3 x4 : Operand} (hd : Nat.blt d n = true) [ht : SlT P t e 1 by_ z] (hx : ev fr x = some v) (hx2 : ev fr x2 = some v2) (hx3 : ev fr x3 = some v3) (hx4 : ev fr x4 = some v4) (hz : z.cells.size = 1)
    (hv : v.cells = #[v]) (hv2 : v2.cells = #[v2]) (hv3 : v3.cells = #[v3]) (hv4 : v4.cells = #[v4])
    (k : ∀ g, WpL P n D ops rest Q ((d, .slice (some ⟨g, 0, none⟩) 4 4) :: fr) (Qz g [v, v2, v3, v4] e :: l)) : WpL P n D ops (⟨some d, .buildSlice t 4 #[(0, x), (1, x2), (2, x3), (3, x4)], ty, pos, aft, none⟩ :: rest) Q fr l :=
  s_bs (os := [(0, x), (1, x2), (2, x3), (3, x4)]) [v, v2, v3, v4] hd hz rfl (by simp [hv, hv2, hv3, hv4]) (by simp) (fun a hh => by simp [hh.ev hx, hh.ev hx2, hh.ev hx3, hh.ev hx4]) k

theorem lstream_spec (A0 : HP) (a0 : Option Addr) (c0 : Nat) (bs : List Int) (hc0 : bs.length ≤ c0) (hbl : bs.length ≤ 9223372036854775807) (ga : Option Addr) (gc : Nat) (gs : List GS) (hgl : gs.length ≤ 9223372036854775807) (hG : RdsL [A0] ga (gs.flatMap gC)) (hgs : GsOk A0 gs) (ya : Option Addr) (yc : Nat) (ys : List Int) (hy : RdsL [A0] ya (Q3 ys)) (hyl : ys.length ≤ 9223372036854775807) (p cc q : Int) (hp : -9223372036854775808 ≤ p ∧ p < 9223372036854775808) (hcc : 0 ≤ cc ∧ cc ≤ 255) (hq : -9223372036854775808 ≤ q ∧ q < 9223372036854775808) : Fn Tryz.prog 14 #[.slice a0 bs.length c0, .slice ga gs.length gc, .slice ya ys.length yc, .int .i64 p, .int .u8 cc, .int .i64 q] [A0] (fun v l => ∃ own1 tn gT ao co at1 ct N, strT own1 tn ∧ N ≤ own1.length ∧ own1.length ≤ co ∧ own1.length ≤ ct ∧ v = .slice (some ⟨gT, 0, none⟩) 4 4 ∧ l = [Qz gT [.slice a0 (min bs.length 120) c0, .slice ao own1.length co, .slice at1 own1.length ct, .slice ao N co] 22, own 5 1 ao co own1.length (XM own1), own 5 1 at1 ct own1.length (XM tn), A0]) := by
 refine Qo (vs := [.slice a0 bs.length c0, .slice ga gs.length gc, .slice ya ys.length yc, .int .i64 p, .int .u8 cc, .int .i64 q]) Tryz.func14 rfl Tryz.ntmps14 rfl (Qb (Qa (Qd rfl rfl (WpL.nil (Qb (Qa (Qc rfl rfl (Qj rfl rfl (by repeat' constructor) (rGood11_spec A0 ga gc gs hgl hG hgs 5 (by omega)) ?_))))))))
 rintro _ _ ⟨ims, ag, cg, hgd, hl3, rfl, rfl⟩
 simp only [Qv]
 refine WpL.exs Take1.here fun L => ?_
 refine WpL.pur Take1.here fun hL => ?_
 subst hL
 rw [List.length_map] at *
 have hfm : ∀ r ∈ L, FmtP r.1.c r.1.m := fun r hr => by have q := hgd r.1 (List.mem_map_of_mem hr); exact ⟨q.1, q.2.1⟩
 refine Qd rfl rfl (WpL.nil (Qb (Qa (Qc rfl rfl (Qc rfl rfl (Qc rfl rfl (Qj rfl rfl (by repeat' constructor) (rKinds11_spec [own 71 5 ag cg L.length (L.flatMap iC), A0] ag cg L Q6.head hfm (by omega) ya yc ys hy.tail hyl) ?_)))))))
 rintro _ _ ⟨ks, ak, ck, hko, rfl, rfl⟩
 simp only [Qv]
 refine Qj rfl rfl (by repeat' constructor) (rJoin_spec (own 71 5 ag cg L.length (L.flatMap iC)) (YN (L.map fun r => own 92 1 r.2.1 r.2.2 r.1.px.length (Xy r.1.px))) (own 3 1 ak ck ks.length (Q3 ks)) ag cg L Q6 (fun r hr => rc_row (row := Img.px) hr) 5 (by omega) (fun r hr => hgd r.1 (List.mem_map_of_mem hr)) (by omega) ak ck ks Q6 hko) ?_
 rintro _ _ ⟨ao, co, rfl, rfl⟩
 simp only [Qv]
 have hjl := joinI_bd (by omega) hko hgd
 have hjb := joinI_byte (by omega) hko hgd
 generalize (Ze (L.map (·.1)) ks) = own1 at *
 rw [List.length_map] at hjl
 have haq := Yw (x := q) (m := own1.length + 1) (by omega)
 refine Y0 (by repeat' constructor) (fun hco => ?_)
 refine Qc rfl rfl (QK rfl rfl rfl (QK rfl rfl rfl (Qd rfl rfl (Qd rfl rfl (WpL.nil (Qb (Qa (Qd rfl rfl (WpL.nil (Qb (Qa (Qc rfl rfl ?_))))))))))))
 refine Qc rfl rfl (WpL.ent (Ent.own_nil (T := 5) (s := 1) (Ent.refl _)) ?_)
 refine s_appR (xs := []) (m2 := own1.length) rfl rfl rfl (by repeat' constructor) (Q6 (T := 5) (s := 1) (a := ao) (c := co) (m := own1.length)) (by exact Take.ent' (by repeat' constructor)) (by rw [XA, Nat.mul_one]) (by rfl) (by rfl) (u8s_one _) (by omega) (by omega) ?_
 intro a29 c29
 rw [List.nil_append, Nat.zero_add]
 refine Y0 (by repeat' constructor) (fun hct => ?_)
 refine Qd rfl rfl (WpL.nil (Qb (Qb (Qa (Qc rfl rfl (QM rfl rfl (XC rfl rfl rfl (WpL.nil (Qh rfl (fun h0 => ?_) (fun h0 => ?_))))))))))
 ·have hap := Yw (x := p) (m := own1.length) (by omega)
  have hpl : (QX p own1.length).toNat < own1.length := by omega
  refine Qa (Qc rfl rfl (Qc rfl rfl (Qc rfl rfl (QM rfl rfl (Qj rfl rfl (by repeat' constructor) (Yb _ _ (by omega) (by omega) (by omega)) ?_)))))
  rintro _ _ ⟨rfl, rfl⟩
  simp only [Qv]
  refine Qc rfl rfl (Xo (QX p own1.length).toNat rfl rfl rfl (Q6 (T := 5) (s := 1) (a := a29) (c := c29) (m := own1.length)) (by exact Take.ent' (by repeat' constructor)) (by omega) hpl (by rw [XA]; exact hpl) ?_)
  refine s_sto (a := a29) rfl rfl rfl (by repeat' constructor) (by rw [XA]; exact hpl) ?_
  rw [u8s_set]
  refine WpL.nil (Qb ?_)
  apply Xe (fB := []) mixed [(14, false)] (by kernel_rfl)
  apply Q4 [⟨0, 40, _, [], false⟩, ⟨1, 41, _, [], false⟩, ⟨2, 42, _, [1], false⟩, ⟨3, 43, _, [2], false⟩, ⟨4, 44, _, [0, 3], false⟩, ⟨5, 45, _, [], false⟩, ⟨6, 46, _, [], false⟩, ⟨7, 47, _, [], false⟩, ⟨8, 48, _, [], false⟩, ⟨9, 49, _, [], false⟩, ⟨10, 50, _, [9], false⟩, ⟨11, 51, _, [10], false⟩, ⟨12, 52, _, [8, 11], false⟩, ⟨13, 53, _, [7, 12], false⟩] [] [0, 1, 2, 3, 4, 5, 6, 7, 8, 9, 10, 11, 12, 13] [12] (.inr rfl) rfl rfl rfl (by kernel_rfl) rfl rfl rfl
  ·refine AllF.cons rfl rfl rfl rfl ?_ ?_
   ·exact Qc rfl rfl (Qm rfl)
   refine AllF.cons rfl rfl rfl rfl ?_ ?_
   ·exact Qc rfl rfl (Qm rfl)
   refine AllF.cons rfl rfl rfl rfl ?_ ?_
   ·exact QM rfl rfl (WpL.nil ⟨rfl, rfl, rfl, by exact Ent.refl _⟩)
   refine AllF.cons rfl rfl rfl rfl ?_ ?_
   ·exact Vf rfl rfl rfl (WpL.nil ⟨rfl, rfl, rfl, by exact Ent.refl _⟩)
   refine AllF.cons rfl rfl rfl rfl ?_ ?_
   ·refine s_sll_h (H := min bs.length 120) rfl rfl rfl (by omega) (by omega) ?_
    exact Qm rfl
   refine AllF.cons rfl rfl rfl rfl ?_ ?_
   ·exact Qc rfl rfl (Qm rfl)
   refine AllF.cons rfl rfl rfl rfl ?_ ?_
   ·exact Qc rfl rfl (Qm rfl)
   refine AllF.cons rfl rfl rfl rfl ?_ ?_
   ·exact Qc rfl rfl (Qm rfl)
   refine AllF.cons rfl rfl rfl rfl ?_ ?_
   ·exact Qc rfl rfl (Qm rfl)
   refine AllF.cons rfl rfl rfl rfl ?_ ?_
   ·exact Qc rfl rfl (Qm rfl)
   refine AllF.cons rfl rfl rfl rfl ?_ ?_
   ·exact QM rfl rfl (WpL.nil ⟨rfl, rfl, rfl, by exact Ent.refl _⟩)
   refine AllF.cons rfl rfl rfl rfl ?_ ?_
   ·refine Qw rfl rfl rfl (Qp (by omega) (by omega)) ?_
    exact Qm rfl
   refine AllF.cons rfl rfl rfl rfl ?_ ?_
   ·refine Qj rfl rfl (by repeat' constructor) (Yb _ _ (by omega) (by omega) (by omega)) ?_
    rintro _ _ ⟨rfl, rfl⟩
    simp only [Qv]
    exact WpL.nil ⟨rfl, rfl, rfl, by exact Ent.refl _⟩
   refine AllF.cons rfl rfl rfl rfl ?_ ?_
   ·refine s_sll_h (H := (QX q (own1.length + 1)).toNat) rfl rfl rfl (by omega) (by omega) ?_
    exact Qm rfl
   exact AllF.nil
  ·refine s_bs4 rfl rfl rfl rfl rfl rfl rfl rfl rfl rfl ?_
   intro gT
   refine WpL.nil ⟨rfl, rfl, ?_⟩
   apply GoR.nil [⟨15, 12, _, [0, 1, 2, 3, 4, 5, 6, 7, 8, 9, 10, 11, 12, 13, 14], false⟩] (.inr rfl) rfl rfl
   ·refine AllF.cons rfl rfl rfl rfl ?_ ?_
    ·exact Qd rfl rfl (Qm rfl)
    exact AllF.nil
   ·refine Qg ?_
    apply RetQ.mk
    ·exact (Res.one rfl rfl)
    ·exact ⟨own1, own1.set (QX p own1.length).toNat cc, gT, ao, co, a29, c29, (QX q (own1.length + 1)).toNat, ⟨by omega, hjb, List.length_set, byte_set hjb hcc⟩, by omega, hco, hct, rfl, rfl⟩
    ·exact Take.ent' (by repeat' constructor)
 ·refine Wp.skip (Qb ?_)
  apply Xe (fB := []) mixed [(14, false)] (by kernel_rfl)
  apply Q4 [⟨0, 40, _, [], false⟩, ⟨1, 41, _, [], false⟩, ⟨2, 42, _, [1], false⟩, ⟨3, 43, _, [2], false⟩, ⟨4, 44, _, [0, 3], false⟩, ⟨5, 45, _, [], false⟩, ⟨6, 46, _, [], false⟩, ⟨7, 47, _, [], false⟩, ⟨8, 48, _, [], false⟩, ⟨9, 49, _, [], false⟩, ⟨10, 50, _, [9], false⟩, ⟨11, 51, _, [10], false⟩, ⟨12, 52, _, [8, 11], false⟩, ⟨13, 53, _, [7, 12], false⟩] [] [0, 1, 2, 3, 4, 5, 6, 7, 8, 9, 10, 11, 12, 13] [12] (.inr rfl) rfl rfl rfl (by kernel_rfl) rfl rfl rfl
  ·refine AllF.cons rfl rfl rfl rfl ?_ ?_
   ·exact Qc rfl rfl (Qm rfl)
   refine AllF.cons rfl rfl rfl rfl ?_ ?_
   ·exact Qc rfl rfl (Qm rfl)
   refine AllF.cons rfl rfl rfl rfl ?_ ?_
   ·exact QM rfl rfl (WpL.nil ⟨rfl, rfl, rfl, by exact Ent.refl _⟩)
   refine AllF.cons rfl rfl rfl rfl ?_ ?_
   ·exact Vf rfl rfl rfl (WpL.nil ⟨rfl, rfl, rfl, by exact Ent.refl _⟩)
   refine AllF.cons rfl rfl rfl rfl ?_ ?_
   ·refine s_sll_h (H := min bs.length 120) rfl rfl rfl (by omega) (by omega) ?_
    exact Qm rfl
   refine AllF.cons rfl rfl rfl rfl ?_ ?_
   ·exact Qc rfl rfl (Qm rfl)
   refine AllF.cons rfl rfl rfl rfl ?_ ?_
   ·exact Qc rfl rfl (Qm rfl)
   refine AllF.cons rfl rfl rfl rfl ?_ ?_
   ·exact Qc rfl rfl (Qm rfl)
   refine AllF.cons rfl rfl rfl rfl ?_ ?_
   ·exact Qc rfl rfl (Qm rfl)
   refine AllF.cons rfl rfl rfl rfl ?_ ?_
   ·exact Qc rfl rfl (Qm rfl)
   refine AllF.cons rfl rfl rfl rfl ?_ ?_
   ·exact QM rfl rfl (WpL.nil ⟨rfl, rfl, rfl, by exact Ent.refl _⟩)
   refine AllF.cons rfl rfl rfl rfl ?_ ?_
   ·refine Qw rfl rfl rfl (Qp (by omega) (by omega)) ?_
    exact Qm rfl
   refine AllF.cons rfl rfl rfl rfl ?_ ?_
   ·refine Qj rfl rfl (by repeat' constructor) (Yb _ _ (by omega) (by omega) (by omega)) ?_
    rintro _ _ ⟨rfl, rfl⟩
    simp only [Qv]
    exact WpL.nil ⟨rfl, rfl, rfl, by exact Ent.refl _⟩
   refine AllF.cons rfl rfl rfl rfl ?_ ?_
   ·refine s_sll_h (H := (QX q (own1.length + 1)).toNat) rfl rfl rfl (by omega) (by omega) ?_
    exact Qm rfl
   exact AllF.nil
  ·refine s_bs4 rfl rfl rfl rfl rfl rfl rfl rfl rfl rfl ?_
   intro gT
   refine WpL.nil ⟨rfl, rfl, ?_⟩
   apply GoR.nil [⟨15, 12, _, [0, 1, 2, 3, 4, 5, 6, 7, 8, 9, 10, 11, 12, 13, 14], false⟩] (.inr rfl) rfl rfl
   ·refine AllF.cons rfl rfl rfl rfl ?_ ?_
    ·exact Qd rfl rfl (Qm rfl)
    exact AllF.nil
   ·refine Qg ?_
    apply RetQ.mk
    ·exact (Res.one rfl rfl)
    ·exact ⟨own1, own1, gT, ao, co, a29, c29, (QX q (own1.length + 1)).toNat, ⟨by omega, hjb, rfl, hjb⟩, by omega, hco, hct, rfl, rfl⟩
    ·exact Take.ent' (by repeat' constructor)

end Go.Proofs.YtggamdlpiejbiaaGreat
namespace Go.Proofs.YtggamdlpiejbiaaGreat
open Go.RowKit Go.Shelf


/-- The document's example. -/
def livS (bs : List Int) : PS × Int := bs.foldl (fun q c => ((Xr (QD 4096) (QE 65536) (QF 65535) q.1 c).1, q.2 + ((Xr (QD 4096) (QE 65536) (QF 65535) q.1 c).2.length : Int))) (ps0, 0)
theorem livS_snoc (bs : List Int) (c : Int) : livS (bs ++ [c]) = ((Xr (QD 4096) (QE 65536) (QF 65535) (livS bs).1 c).1, (livS bs).2 + ((Xr (QD 4096) (QE 65536) (QF 65535) (livS bs).1 c).2.length : Int)) := by unfold livS; rw [List.foldl_append]; rfl
theorem livS_I : ∀ (bs : List Int) (_ : ∀ b ∈ bs, 0 ≤ b ∧ b ≤ 255) (n : Nat), n ≤ bs.length → psI (QD 4096) (QE 65536) (QF 65535) n (livS (bs.take n)).1
  | bs, _, 0, _ => psI0 _ _ _
  | bs, hb, n + 1, hn => by
    have ih := livS_I bs hb n (by omega)
    have hc := hb _ (List.getElem_mem (show n < bs.length by omega))
    rw [X7 bs (by omega), livS_snoc]
    exact psPut_I (lim_o 4096 65536 65535) ih hc.1 hc.2
theorem liv_end : (livS (QW (⟨#[80, 52, 32, 49, 32, 49, 32]⟩ : ByteArray))).2 = 1 ∧ (Xr (QD 4096) (QE 65536) (QF 65535) (livS (QW (⟨#[80, 52, 32, 49, 32, 49, 32]⟩ : ByteArray))).1 128).2.length = 2 ∧ (Xr (QD 4096) (QE 65536) (QF 65535) (livS (QW (⟨#[80, 52, 32, 49, 32, 49, 32]⟩ : ByteArray))).1 128).1.imgs = 1 := by decide +kernel

end Go.Proofs.YtggamdlpiejbiaaGreat
namespace Go.Proofs.YtggamdlpiejbiaaGreat
open Go.RowKit Go.Shelf


theorem bsOf_bd (s : ByteArray) : ∀ b ∈ QW s, 0 ≤ b ∧ b ≤ 255 := by
  intro b hb
  unfold QW at hb
  obtain ⟨x, _, rfl⟩ := List.mem_map.1 hb
  have := UInt8.toNat_lt x
  omega
theorem liv_n : ∀ k : Fin 8, 0 ≤ (livS ((QW (⟨#[80, 52, 32, 49, 32, 49, 32]⟩ : ByteArray)).take k.val)).2 ∧ (livS ((QW (⟨#[80, 52, 32, 49, 32, 49, 32]⟩ : ByteArray)).take k.val)).2 ≤ 100 := by decide +kernel

theorem llives_spec  : Fn Tryz.prog 20 #[] [] (fun v l => v = .bool true ∧ l = []) := by
 have hsz : ((⟨#[80, 52, 32, 49, 32, 49, 32]⟩ : ByteArray)).size = 7 := rfl
 refine Qo (vs := []) Tryz.func20 rfl Tryz.ntmps20 rfl (Qb (Qa (Qd rfl rfl (WpL.nil (Qb (Qa (Qj rfl rfl (by repeat' constructor) (hdAll_spec) ?_)))))))
 rintro _ _ ⟨rfl, rfl⟩
 simp only [Qv]
 refine Qj rfl rfl (by repeat' constructor) (pnNew_spec 4096 65536 65535) ?_
 rintro _ _ ⟨gP, rfl, rfl⟩
 simp only [Qv]
 refine Qd rfl rfl (WpL.nil (Qb (Qb (Qa (Qc rfl rfl (s_peq rfl Tryz.underlying35 rfl rfl (WpL.nil (Wp.condBF rfl rfl (Wp.skip (Qb (Qa (Qd rfl rfl ?_))))))))))))
 refine WpL.nil (Qb (Qa (Qd rfl rfl (WpL.nil (Qb (Qb (Qa (Qd rfl rfl (WpL.nil (Wp.block ?_))))))))))
 refine Wp.loopD (σ := Nat) (fun k => k ≤ 7) [3, 4, 10, 11, 12, 13, 14, 15, 16, 17, 18, 19, 20, 21, 22, 23] (fun k => [(4, .int .i64 (k : Int)), (3, .int .i64 (livS ((QW (⟨#[80, 52, 32, 49, 32, 49, 32]⟩ : ByteArray)).take k)).2)]) (fun k => [psR gP 4096 65536 65535 (livS ((QW (⟨#[80, 52, 32, 49, 32, 49, 32]⟩ : ByteArray)).take k)).1]) (fun k => 7 - k) 0 ?_ (by repeat (first | exact FrLe.nil | refine FrLe.cons rfl ?_)) ?_ ?_
 ·exact Nat.zero_le _
 ·exact Ent.refl _
 ·rintro k hk
  have hI := livS_I (QW (⟨#[80, 52, 32, 49, 32, 49, 32]⟩ : ByteArray)) (bsOf_bd _) k (by rw [Q8]; exact hk)
  have hn := liv_n ⟨k, by omega⟩
  dsimp only at hn
  refine Qb (Qb (Qa (Qc rfl rfl (Qc rfl rfl (XB rfl Tryz.underlying9 rfl (Q9 rfl rfl rfl (WpL.nil (Qh rfl (fun h2 => ?_) (fun h2 => ?_)))))))))
  ·have hlt : k < 7 := by omega
   have hkb : k < (QW (⟨#[80, 52, 32, 49, 32, 49, 32]⟩ : ByteArray)).length := hlt
   have hcb := bsOf_bd _ _ (List.getElem_mem hkb)
   have hsn := livS_snoc ((QW (⟨#[80, 52, 32, 49, 32, 49, 32]⟩ : ByteArray)).take k) (QW (⟨#[80, 52, 32, 49, 32, 49, 32]⟩ : ByteArray))[k]
   rw [← X7 _ hkb] at hsn
   have hs1 := congrArg (·.1) hsn
   have hs2 := congrArg (·.2) hsn
   dsimp only at hs1 hs2
   have hn2 := liv_n ⟨k + 1, by omega⟩
   dsimp only at hn2
   refine Wp.skip (Qb (Wp.block ?_))
   refine Qa (Qc rfl rfl (Qc rfl rfl (Qc rfl rfl (Qc rfl rfl (Yo rfl Tryz.underlying9 rfl rfl (by omega) hlt ?_)))))
   have e20 : ((((⟨#[80, 52, 32, 49, 32, 49, 32]⟩ : ByteArray))[((k : Int)).toNat]'hlt).toNat : Int) = (QW (⟨#[80, 52, 32, 49, 32, 49, 32]⟩ : ByteArray))[k] := (bsOf_at hlt).symm
   rw [e20]
   refine Qj rfl rfl (by repeat' constructor) (psPut_rep gP 4096 65536 65535 _ _ (by omega) hI _ (by omega) (by omega)) ?_
   rintro _ _ rfl
   simp only [Qv]
   refine WpL.exs (Take1.there Take1.here) fun pv => ?_
   refine WpL.pur Take1.here fun hv => ?_
   obtain ⟨aE, cE, aR, cR⟩ := pv
   dsimp only at hv
   subst hv
   refine QM rfl rfl (Qw rfl rfl rfl (Qp (by omega) (by omega)) ?_)
   refine Qd rfl rfl (WpL.nil (Qa (Qc rfl rfl (Qw rfl rfl rfl (Qp (by omega) (by omega)) ?_))))
   refine Qd rfl rfl (WpL.nil (Qq (k + 1) ?_ ?_ (by ((repeat (first | exact Top.refl | refine Top.push rfl ?_)); done)) (FrLe.cons rfl (FrLe.cons (by exact congrArg (fun z => some (Value.int .i64 z)) hs2.symm) FrLe.nil)) ?_))
   ·omega
   ·omega
   ·rw [hs1]
    exact Take.ent' (by repeat' constructor)
  ·obtain rfl : k = 7 := by omega
   rw [show (QW (⟨#[80, 52, 32, 49, 32, 49, 32]⟩ : ByteArray)).take 7 = QW (⟨#[80, 52, 32, 49, 32, 49, 32]⟩ : ByteArray) from rfl] at *
   refine QS (Qb (Qa (Qc rfl rfl (Qj rfl rfl (by repeat' constructor) (psPut_rep gP 4096 65536 65535 _ _ (by omega) hI _ (by omega) (by omega)) ?_))))
   rintro _ _ rfl
   simp only [Qv]
   refine WpL.exs (Take1.there Take1.here) fun pv => ?_
   refine WpL.pur Take1.here fun hv => ?_
   obtain ⟨aE, cE, aR, cR⟩ := pv
   dsimp only at hv
   subst hv
   refine Qd rfl rfl (WpL.nil (Qb (Qa (Qc rfl rfl (QI rfl rfl rfl (Qc rfl rfl (QB (dj := 28) rfl (decide_eq_true liv_end.1) ?_)))))))
   refine Qf rfl rfl (Qc rfl rfl (Qf rfl rfl (QM rfl rfl (Qf rfl rfl (QI rfl rfl rfl (Qr rfl rfl rfl (Qc rfl rfl (QB (dj := 33) rfl (decide_eq_true (by have := liv_end.2.1; omega)) ?_))))))))
   refine Qf rfl rfl (Qc rfl rfl (Qf rfl rfl (Qj rfl rfl (by repeat' constructor) (psImages_rep gP 4096 65536 65535 _) ?_)))
   rintro _ _ ⟨rfl, rfl⟩
   simp only [Qv]
   refine Qf rfl rfl (QI rfl rfl rfl (Qr rfl rfl rfl (Qd rfl rfl (WpL.nil (Qg ?_)))))
   apply RetQ.mk
   ·exact (Res.one rfl rfl)
   ·exact ⟨congrArg Value.bool (decide_eq_true liv_end.2.2), rfl⟩
   ·exact Ent.nil _

end Go.Proofs.YtggamdlpiejbiaaGreat
namespace Go.Proofs.YtggamdlpiejbiaaGreat
open Go.RowKit Go.Shelf


/-- A reader that is told bytes: how it stands, and how YN events it told. -/
def runF (l0 l1 l2 : Int) (bs : List Int) : PS × Int := bs.foldl (fun q c => ((Xr l0 l1 l2 q.1 c).1, q.2 + ((Xr l0 l1 l2 q.1 c).2.length : Int))) (ps0, 0)
theorem runF_snoc (l0 l1 l2 : Int) (bs : List Int) (c : Int) : runF l0 l1 l2 (bs ++ [c]) = ((Xr l0 l1 l2 (runF l0 l1 l2 bs).1 c).1, (runF l0 l1 l2 bs).2 + ((Xr l0 l1 l2 (runF l0 l1 l2 bs).1 c).2.length : Int)) := by unfold runF; rw [List.foldl_append]; rfl
theorem runF_go (l0 l1 l2 : Int) : ∀ (bs : List Int) (s : PS) (n : Int), bs.foldl (fun q c => ((Xr l0 l1 l2 q.1 c).1, q.2 + ((Xr l0 l1 l2 q.1 c).2.length : Int))) (s, n) = ((Xa l0 l1 l2 s bs).1, n + ((Xa l0 l1 l2 s bs).2.length : Int))
  | [], s, n => by simp [Xa]
  | c :: bs, s, n => by
    rw [List.foldl_cons, runF_go l0 l1 l2 bs, XX]
    simp only [Yj, List.length_append, List.length_map]
    congr 1
    omega
theorem runF_run (l0 l1 l2 : Int) (bs : List Int) : runF l0 l1 l2 bs = ((Xa l0 l1 l2 ps0 bs).1, ((Xa l0 l1 l2 ps0 bs).2.length : Int)) := by unfold runF; rw [runF_go]; simp
theorem runF_I (a b d : Int) : ∀ (bs : List Int) (_ : ∀ x ∈ bs, 0 ≤ x ∧ x ≤ 255) (n : Nat), n ≤ bs.length → psI (QD a) (QE b) (QF d) n (runF (QD a) (QE b) (QF d) (bs.take n)).1
  | bs, _, 0, _ => psI0 _ _ _
  | bs, hb, n + 1, hn => by
    have ih := runF_I a b d bs hb n (by omega)
    have hc := hb _ (List.getElem_mem (show n < bs.length by omega))
    rw [X7 bs (by omega), runF_snoc]
    exact psPut_I (lim_o a b d) ih hc.1 hc.2
/-- One of a stream's four texts, as it lies in a part. -/
structure TxL where
  (a : Option Addr) (c : Nat) (bs : List Int)
def TxOk (B : HP) (t : TxL) : Prop := RdsL [B] t.a (XM t.bs) ∧ (∀ x ∈ t.bs, 0 ≤ x ∧ x ≤ 255) ∧ t.bs.length ≤ t.c ∧ t.bs.length ≤ 100000000
def txV (t : TxL) : Value := .slice t.a t.bs.length t.c

end Go.Proofs.YtggamdlpiejbiaaGreat
namespace Go.Proofs.YtggamdlpiejbiaaGreat
open Go.RowKit Go.Shelf

def Zq (es : List Evt) : Int := ((es.filter fun x => decide (x.k = 3)).length : Int)
theorem cnt3_app (a b : List Evt) : Zq (a ++ b) = Zq a + Zq b := by unfold Zq; rw [List.filter_append, List.length_append]; push_cast; rfl
def EvOk (es : List Evt) : Prop := ∀ x ∈ es.tail, x.row = []
theorem psEvts_q (s : PS) (bd : Bd) (st e : Int) (row : List Int) : (Xq s bd st e row).1.told = s.told ∧ (Xq s bd st e row).1.imgs = s.imgs + Zq (Xq s bd st e row).2 ∧ EvOk (Xq s bd st e row).2 ∧ (Xq s bd st e row).1.over = s.over := by
  unfold Xq XG Xu
  by_cases h1 : st = 1 <;> by_cases h2 : st = 2 <;> by_cases h3 : row = [] <;> simp [h1, h2, h3, Zq, EvOk]
  all_goals (subst h2; simp_all)
theorem psHeads_q (s : PS) (h : HS) : (Xk s h).1.told = s.told ∧ (Xk s h).1.imgs = s.imgs + Zq (Xk s h).2 ∧ EvOk (Xk s h).2 ∧ (Xk s h).1.over = s.over := by
  unfold Xk
  repeat' split
  all_goals simp [Zq, EvOk]
theorem psStep_q (l0 l1 l2 : Int) (s : PS) (c : Int) : (XP l0 l1 l2 s c).1.told = s.told ∧ (XP l0 l1 l2 s c).1.imgs = s.imgs + Zq (XP l0 l1 l2 s c).2 ∧ EvOk (XP l0 l1 l2 s c).2 ∧ (XP l0 l1 l2 s c).1.over = s.over := by
  unfold XP
  split
  · split
    · simp [Zq, EvOk]
    · exact psHeads_q _ _
  · split
    · exact psHeads_q _ _
    · unfold psBody
      split
      · simp [Zq, EvOk]
      · exact psEvts_q _ _ _ _ _
      · exact psEvts_q _ _ _ _ _
def YL (s : PS) : Prop := s.over = false ∧ s.e = 0
theorem dead_of {s : PS} (h : ¬ YL s) : s.over = true ∨ s.e ≠ 0 := by
  unfold YL at h
  by_cases he : s.e = 0
  · left; cases ho : s.over with
    | true => rfl
    | false => exact absurd ⟨ho, he⟩ h
  · exact .inr he
theorem psPut_q (l0 l1 l2 : Int) (s : PS) (c : Int) : ((Xr l0 l1 l2 s c).2 ≠ [] → YL s) ∧ (YL (Xr l0 l1 l2 s c).1 → YL s) ∧ (YL s → (Xr l0 l1 l2 s c).1.told = s.told + 1) ∧ (Xr l0 l1 l2 s c).1.imgs = s.imgs + Zq (Xr l0 l1 l2 s c).2 ∧ EvOk (Xr l0 l1 l2 s c).2 := by
  by_cases h : YL s
  · rw [Zj _ _ _ h.1 h.2]
    have q := psStep_q l0 l1 l2 { s with told := s.told + 1 } c
    exact ⟨fun _ => h, fun _ => h, fun _ => q.1, q.2.1, q.2.2.1⟩
  · rw [psPut_dead _ _ _ (dead_of h)]
    exact ⟨fun q => absurd rfl q, fun q => absurd q h, fun q => absurd q h, by simp [Zq], by simp [EvOk]⟩
theorem psEnd_q (s : PS) : ((X0 s).2 ≠ [] → YL s) ∧ ¬ YL (X0 s).1 ∧ (X0 s).1.told = s.told ∧ (X0 s).1.imgs = s.imgs + Zq (X0 s).2 ∧ EvOk (X0 s).2 := by
  by_cases h : YL s
  · obtain ⟨hd, ph, bd, told, imgs, over, e⟩ := s
    obtain ⟨h1, h2⟩ := h
    dsimp only at h1 h2
    subst h1 h2
    unfold X0
    rw [if_neg (by simp)]
    cases bd with
    | no =>
      dsimp only
      split <;> simp [Zq, EvOk, YL]
    | pl r =>
      have q := psEvts_q ⟨hd, ph, .pl r, told, imgs, true, 0⟩ (.pl (XV (hd.getD hd0).K (hd.getD hd0).W (hd.getD hd0).H r).1) (XV (hd.getD hd0).K (hd.getD hd0).W (hd.getD hd0).H r).1.last (XV (hd.getD hd0).K (hd.getD hd0).W (hd.getD hd0).H r).1.e (XV (hd.getD hd0).K (hd.getD hd0).W (hd.getD hd0).H r).2
      have hz : ¬ YL (Xq ⟨hd, ph, .pl r, told, imgs, true, 0⟩ (.pl (XV (hd.getD hd0).K (hd.getD hd0).W (hd.getD hd0).H r).1) (XV (hd.getD hd0).K (hd.getD hd0).W (hd.getD hd0).H r).1.last (XV (hd.getD hd0).K (hd.getD hd0).W (hd.getD hd0).H r).1.e (XV (hd.getD hd0).K (hd.getD hd0).W (hd.getD hd0).H r).2).1 := fun z => by
        have z1 := z.1
        rw [q.2.2.2] at z1
        cases z1
      exact ⟨fun _ => ⟨rfl, rfl⟩, hz, q.1, q.2.1, q.2.2.1⟩
    | rw r => simp [Zq, EvOk, YL]
  · have e : X0 s = (s, []) := if_pos (dead_of h)
    rw [e]
    exact ⟨fun q => absurd rfl q, h, rfl, by simp [Zq], by simp [EvOk]⟩
theorem psRun_app (l0 l1 l2 : Int) : ∀ (xs bs : List Int) (s : PS), Xa l0 l1 l2 s (xs ++ bs) = Yj (Xa l0 l1 l2 s xs).2 (Xa l0 l1 l2 (Xa l0 l1 l2 s xs).1 bs)
  | [], bs, s => by simp [Xa, Yj]
  | a :: xs, bs, s => by
    rw [List.cons_append, XX, psRun_app l0 l1 l2 xs bs, XX, YJ]
    rfl
theorem psRun_snoc (l0 l1 l2 : Int) (bs : List Int) (c : Int) (s : PS) : Xa l0 l1 l2 s (bs ++ [c]) = ((Xr l0 l1 l2 (Xa l0 l1 l2 s bs).1 c).1, (Xa l0 l1 l2 s bs).2 ++ (Xr l0 l1 l2 (Xa l0 l1 l2 s bs).1 c).2.map fun x => (x, (Xr l0 l1 l2 (Xa l0 l1 l2 s bs).1 c).1.told)) := by
  rw [psRun_app, XX]
  simp [Xa, Yj]
theorem psRun_told (l0 l1 l2 : Int) (bs : List Int) : ∀ k, k ≤ bs.length → YL (Xa l0 l1 l2 ps0 (bs.take k)).1 → (Xa l0 l1 l2 ps0 (bs.take k)).1.told = (k : Int)
  | 0, _, _ => rfl
  | k + 1, hk, h => by
    rw [List.take_succ_eq_append_getElem (by omega), psRun_snoc] at h ⊢
    have q := psPut_q l0 l1 l2 (Xa l0 l1 l2 ps0 (bs.take k)).1 (bs[k]'(by omega))
    have h0 := q.2.1 h
    have ih := psRun_told l0 l1 l2 bs k (by omega) h0
    dsimp only
    rw [q.2.2.1 h0, ih]
    push_cast; rfl
theorem cnt3_imgs : ∀ (es : List Evt) (st : Img × List Img), ((es.foldl Xv st).2.length : Int) = st.2.length + Zq es
  | [], st => by simp [Zq]
  | x :: es, st => by
    rw [List.foldl_cons, cnt3_imgs es, show x :: es = [x] ++ es from rfl, cnt3_app]
    unfold Xv Zq
    by_cases h1 : x.k = 1
    · simp [h1]
    · by_cases h2 : x.k = 2
      · simp [h2]
      · by_cases h3 : x.k = 3
        · simp [h3]; omega
        · simp [h1, h2, h3]
theorem imgsOf_len (es : List Evt) : ((imgsOf es).length : Int) = Zq es := by unfold imgsOf; rw [cnt3_imgs]; simp
/-- How a stream's reader stands behind so YN bytes; behind the last one it is told the end. -/
def rdF (l0 l1 l2 : Int) (bs : List Int) (k : Nat) : PS × List (Evt × Int) := if k ≤ bs.length then Xa l0 l1 l2 ps0 (bs.take k) else Z0 l0 l1 l2 true bs
def stF (l0 l1 l2 : Int) (bs : List Int) (k : Nat) : PS × List Evt := if h : k < bs.length then Xr l0 l1 l2 (rdF l0 l1 l2 bs k).1 bs[k] else X0 (rdF l0 l1 l2 bs k).1
theorem rdF_le (l0 l1 l2 : Int) {bs : List Int} {k : Nat} (h : k ≤ bs.length) : rdF l0 l1 l2 bs k = Xa l0 l1 l2 ps0 (bs.take k) := if_pos h
theorem rdF_end (l0 l1 l2 : Int) (bs : List Int) : rdF l0 l1 l2 bs (bs.length + 1) = Z0 l0 l1 l2 true bs := if_neg (by omega)
theorem stF_lt (l0 l1 l2 : Int) {bs : List Int} {k : Nat} (h : k < bs.length) : stF l0 l1 l2 bs k = Xr l0 l1 l2 (rdF l0 l1 l2 bs k).1 bs[k] := dif_pos h
theorem stF_ge (l0 l1 l2 : Int) {bs : List Int} {k : Nat} (h : ¬ k < bs.length) : stF l0 l1 l2 bs k = X0 (rdF l0 l1 l2 bs k).1 := dif_neg h
theorem stF_ok (l0 l1 l2 : Int) (bs : List Int) (k : Nat) : EvOk (stF l0 l1 l2 bs k).2 := by
  unfold stF
  split
  · exact (psPut_q _ _ _ _ _).2.2.2.2
  · exact (psEnd_q _).2.2.2.2
theorem rdF_step (l0 l1 l2 : Int) {bs : List Int} {k : Nat} (h : k ≤ bs.length) : rdF l0 l1 l2 bs (k + 1) = ((stF l0 l1 l2 bs k).1, (rdF l0 l1 l2 bs k).2 ++ (stF l0 l1 l2 bs k).2.map fun x => (x, (k : Int) + 1)) := by
  by_cases hk : k < bs.length
  · rw [stF_lt _ _ _ hk, rdF_le _ _ _ (show k + 1 ≤ bs.length by omega), rdF_le _ _ _ h, List.take_succ_eq_append_getElem hk, psRun_snoc]
    have q := psPut_q l0 l1 l2 (Xa l0 l1 l2 ps0 (bs.take k)).1 bs[k]
    congr 2
    apply List.map_congr_left
    intro x hx
    have ha := q.1 (fun e => by rw [e] at hx; simp at hx)
    rw [q.2.2.1 ha, psRun_told l0 l1 l2 bs k h ha]
  · obtain rfl : k = bs.length := by omega
    rw [stF_ge _ _ _ hk, rdF_end, rdF_le _ _ _ (Nat.le_refl _), List.take_length]
    unfold Z0 Y3
    rw [if_pos rfl]
    have q := psEnd_q (Xa l0 l1 l2 ps0 bs).1
    congr 2
    apply List.map_congr_left
    intro x hx
    have ha := q.1 (fun e => by rw [e] at hx; simp at hx)
    have ht := psRun_told l0 l1 l2 bs bs.length (Nat.le_refl _)
    rw [List.take_length] at ht
    rw [ht ha]
theorem rdF_I (a b d : Int) (bs : List Int) (hb : ∀ x ∈ bs, 0 ≤ x ∧ x ≤ 255) {k : Nat} (h : k ≤ bs.length) : psI (QD a) (QE b) (QF d) k (rdF (QD a) (QE b) (QF d) bs k).1 := by
  have q := runF_I a b d bs hb k h
  rw [runF_run] at q
  rw [rdF_le _ _ _ h]
  exact q
theorem lim_ex (p : Prop) [Decidable p] (a b d a2 b2 d2 : Int) : ∃ a' b' d' : Int, (p → a' = a ∧ b' = b ∧ d' = d) ∧ (¬ p → a' = a2 ∧ b' = b2 ∧ d' = d2) := by
  by_cases h : p
  · exact ⟨a, b, d, fun _ => ⟨rfl, rfl, rfl⟩, fun q => absurd h q⟩
  · exact ⟨a2, b2, d2, fun q => absurd q h, fun _ => ⟨rfl, rfl, rfl⟩⟩
theorem map_fst {α β : Type} {l : List (α × β)} {es : List α} (h : l.map (·.1) = es) {i : Nat} (hi : i < l.length) (hj : i < es.length) : l[i].1 = es[i] := by subst h; simp

end Go.Proofs.YtggamdlpiejbiaaGreat
namespace Go.Proofs.YtggamdlpiejbiaaGreat
open Go.RowKit Go.Shelf
def okFs (P : Program) : Nat → List Field → Bool
  | _, [] => true
  | i, f :: fs => (f.name != "_") && (f.offset == i) && (match P.underlying f.type with | some (.int .i64) => true | _ => false) && P.plainKey f.type && okFs P (i + 1) fs
theorem run_eqFields {P : Program} (d : Nat) (us vs : List Int) (hl : us.length = vs.length) (w : World) : ∀ (fs : List Field) (i : Nat), i + fs.length = us.length → okFs P i fs = true → (Op.eqFields (d + 1) (Q3 us).toArray (Q3 vs).toArray fs).run P w = .ok (decide (us.drop i = vs.drop i)) w
  | [], i, hi, _ => by
    simp only [List.length_nil] at hi
    rw [List.drop_of_length_le (by omega), List.drop_of_length_le (by omega)]
    simp [Op.eqFields]
  | f :: fs, i, hi, hk => by
    simp only [List.length_cons] at hi
    simp only [okFs, Bool.and_eq_true, bne_iff_ne, beq_iff_eq] at hk
    obtain ⟨⟨⟨⟨h1, h2⟩, h3⟩, h4⟩, h5⟩ := hk
    have hu : P.underlying f.type = some (.int .i64) := by
      split at h3
      · assumption
      · cases h3
    have e1 : (part f.type (Q3 us).toArray f.offset).run P w = .ok (.int .i64 (us[i]'(by omega))) w := run_part_plain w h4 (by rw [h2]; simp [Q3, List.getElem?_eq_getElem (show i < us.length by omega)])
    have e2 : (part f.type (Q3 vs).toArray f.offset).run P w = .ok (.int .i64 (vs[i]'(by omega))) w := run_part_plain w h4 (by rw [h2]; simp [Q3, List.getElem?_eq_getElem (show i < vs.length by omega)])
    have ih := run_eqFields (P := P) d us vs hl w fs (i + 1) (by omega) h5
    unfold Op.eqFields
    rw [if_pos h1]
    simp only [Sem.run_bind, e1, e2, Result.andThen_ok, run_equalIn_int w d f.type .i64 .i64 _ _ hu]
    have d1 := List.drop_eq_getElem_cons (show i < us.length by omega)
    have d2 := List.drop_eq_getElem_cons (show i < vs.length by omega)
    by_cases hx : us[i]'(by omega) = vs[i]'(by omega)
    · rw [if_neg (by simp [hx]), ih]
      have q : us.drop (i + 1) = vs.drop (i + 1) ↔ us.drop i = vs.drop i := by
        rw [d1, d2, hx]
        exact ⟨fun e => by rw [e], fun e => (List.cons.inj e).2⟩
      rw [decide_eq_decide.2 q]
    · rw [if_pos (by simp [hx])]
      have q : ¬ us.drop i = vs.drop i := by
        rw [d1, d2]
        exact fun e => hx (List.cons.inj e).1
      rw [decide_eq_false q]
      simp
class AeqT (P : Program) (T : Nat) (k : outParam Nat) : Prop where
  hu : P.underlying T = some (.struct (P.fieldsOf T))
  st : P.stoodInHeld T = false
  gd : P.eqGuardType P.depth T = false
  ok : okFs P 0 (P.fieldsOf T).toList = true
  hk : (P.fieldsOf T).toList.length = k
section
variable {P : Program} {n : Cx} {D : List Deferred} {ops : Array Oper} {rest : List Oper} {Q : Post} {fr : Fr} {l : List HP} {ty : Nat} {pos : String} {aft : Array Edge}
theorem run_aeq {T k : Nat} (hT : AeqT P T k) (us vs : List Int) (h1 : us.length = k) (h2 : vs.length = k) (w : World) : (Op.equalIn 10000 T (.agg (Q3 us).toArray) (.agg (Q3 vs).toArray)).run P w = .ok (decide (us = vs)) w := by
  rw [run_equalIn_struct w 9999 T _ _ hT.hu hT.st]
  have := run_eqFields (P := P) 9998 us vs (by omega) w (P.fieldsOf T).toList 0 (by rw [hT.hk]; omega) hT.ok
  simpa using this
theorem s_aeq {d T T2 k : Nat} {x y : Operand} (us vs : List Int) (hd : Nat.blt d n = true) [hT : AeqT P T k] (hx : ev fr x = some (.agg (Q3 us).toArray)) (hy : ev fr y = some (.agg (Q3 vs).toArray)) (h1 : us.length = k) (h2 : vs.length = k)
    (kk : WpL P n D ops rest Q ((d, .bool (decide (us = vs))) :: fr) l) : WpL P n D ops (⟨some d, .binOp .eql T x y T2, ty, pos, aft, none⟩ :: rest) Q fr l :=
  WpL.val hd (fun A w _ hh _ => by
    simp only [execOp, hh.ev hx, hh.ev hy, Sem.run_bind, run_eqGuard_agg w .eql T x y _ _ hT.gd, Result.andThen_ok, run_eql_struct, run_aeq hT us vs h1 h2]
    simp) kk
theorem own_max {w : World} {S : Nat → Prop} {T s c m : Nat} {a : Option Addr} {xs : List Value} (h : (own T s a c m xs).p w S) : m ≤ 9223372036854775807 := by
  rcases h.2.2 with h2 | ⟨g, cap, cur, e, h0, hh, h1, h3, rest⟩
  · have := YC h
    rcases this with ⟨_, _, h, _⟩ | ⟨_, _, e, _⟩
    · omega
    · obtain ⟨e0, _⟩ := h2
      rw [e] at e0
      cases e0
  · have := YC h
    rcases this with ⟨_, _, h, _⟩ | ⟨_, _, _, _, hmc, _⟩
    · omega
    · injection e with e1 e2 e3
      unfold maxLen at h3
      omega
/-- Ways that meet again, over other parts. -/
theorem Wp.cutL {x y : Code} (R : Prop) (ds : List Nat) (l2 : List HP) (h : Wp P n D x (thn (cutK D R ds fr l2) Q) fr l) (k : R → Wp P n D y Q (Yr ds fr) l2) : Wp P n D (.seq x y) Q fr l := by
  refine Qb (h.mono fun e D' fr' l' q => ?_)
  cases e with
  | normal =>
    obtain ⟨rfl, hR, ht, he⟩ := q
    intro a w U hh hs
    refine k hR a w U ⟨hh.1, hh.2.1, fun t v hv => hh.2.2 t v ?_⟩ (he w U hs)
    obtain ⟨h1, h2⟩ := YR hv
    exact ht.lk h1 h2
  | _ => exact q
end
end Go.Proofs.YtggamdlpiejbiaaGreat
namespace Go.Proofs.YtggamdlpiejbiaaGreat
open Go.RowKit Go.Shelf

instance : AeqT Tryz.prog 48 2 := ⟨by kernel_rfl, by kernel_rfl, by kernel_rfl, by kernel_rfl, by kernel_rfl⟩

theorem Ent.empties {α : Type} {T : Nat} {row : α → List Int} {l F : List HP} (hE : Ent l F) : ∀ (L : List (α × Option Addr × Nat)), (∀ r ∈ L, r.2 = (none, 0) ∧ row r.1 = []) → Ent l ((L.map fun r => own T 1 r.2.1 r.2.2 (row r.1).length (Xy (row r.1))) ++ F)
  | [], _ => hE
  | (x, a, c) :: L, h => by
    obtain ⟨h1, h2⟩ := h (x, a, c) (List.mem_cons_self ..)
    simp only [Prod.mk.injEq] at h1
    obtain ⟨rfl, rfl⟩ := h1
    dsimp only at h2
    rw [List.map_cons, List.cons_append, h2]
    exact Ent.own_nil (Ent.empties hE L fun r hr => h r (List.mem_cons_of_mem _ hr))
theorem opnE {α : Type} {f : α → List HP} {F l : List HP} (h : ∀ x, Ent (f x ++ F) l) : Ent (exs f :: F) l := fun w U hs => let ⟨x, hx⟩ := exs_sat hs; h x w U hx
theorem opnP {p : Prop} {F l : List HP} (h : p → Ent F l) : Ent (pur p :: F) l := fun w U hs => h hs.pur w U hs.tail
def evC2 (x : Evt) (a : Option Addr) (c : Nat) : List Value := [.int .i64 x.k, .int .i64 x.c, .int .i64 x.m, .int .i64 x.w, .int .i64 x.h, .slice a x.row.length c]
/-- Events, each with a row of its own. -/
def evR (a : Option Addr) (c : Nat) (evs : List Evt) : HP := rcR 51 6 92 evC2 Evt.row a c evs
theorem evO_rc {v : Value} {evs : List Evt} {F : List HP} (h : EvOk evs) : Ent (evO v evs :: F) (exs (fun p : Option Addr × Nat => [pur (v = .slice p.1 evs.length p.2), evR p.1 p.2 evs]) :: F) := by
  refine opnE fun ⟨a, c, a3, c3⟩ => ?_
  refine opnP fun hv => ?_
  refine Ent.exs (a, c) (Ent.pur hv ?_)
  cases evs with
  | nil =>
    refine Ent.exs [] (Ent.pur rfl ?_)
    simp only [List.flatMap_nil, List.length_nil, List.map_nil]
    exact Ent.cons (Ent.many (Ent.drop (Ent.refl _)))
  | cons x t =>
    have ht : ∀ y ∈ t, y.row = [] := h
    have e1 : ∀ q : Option Addr × Nat, (t.flatMap (evC a3 c3)) = (t.map fun y => (y, ((none : Option Addr), (0 : Nat)))).flatMap fun r => evC2 r.1 r.2.1 r.2.2 := fun _ => by
      clear h hv
      induction t with
      | nil => rfl
      | cons y t ih =>
        rw [List.flatMap_cons, List.map_cons, List.flatMap_cons, ih fun z hz => ht z (List.mem_cons_of_mem _ hz)]
        congr 1
        unfold evC evC2
        rw [ht y (List.mem_cons_self ..)]
        rfl
    have e2 : ∀ r ∈ (t.map fun y => (y, ((none : Option Addr), (0 : Nat)))), r.2 = (none, 0) ∧ r.1.row = [] := by
      intro r hr
      obtain ⟨y, hy, rfl⟩ := List.mem_map.1 hr
      exact ⟨rfl, ht y hy⟩
    have e3 : (t.map fun y => (y, ((none : Option Addr), (0 : Nat)))).map (·.1) = t := by rw [List.map_map]; exact (List.map_congr_left fun _ _ => rfl).trans (List.map_id t)
    by_cases hx : x.row = []
    · refine Ent.exs ((x, none, 0) :: t.map fun y => (y, none, 0)) (Ent.pur (by rw [List.map_cons, e3]) ?_)
      rw [List.flatMap_cons, List.flatMap_cons, e1 (none, 0)]
      have e0 : evC a3 c3 x = evC2 x none 0 := by unfold evC evC2; rw [if_pos hx, hx]; rfl
      rw [e0]
      refine Ent.cons (Ent.many ?_)
      rw [List.map_cons]
      simp only [List.cons_append, hx]
      exact Ent.own_nil (Ent.empties (Ent.drop (Ent.refl _)) _ e2)
    · refine Ent.exs ((x, a3, c3) :: t.map fun y => (y, none, 0)) (Ent.pur (by rw [List.map_cons, e3]) ?_)
      rw [List.flatMap_cons, List.flatMap_cons, e1 (none, 0)]
      have e0 : evC a3 c3 x = evC2 x a3 c3 := by unfold evC evC2; rw [if_neg hx]
      rw [e0]
      refine Ent.cons (Ent.many ?_)
      rw [List.map_cons]
      simp only [List.cons_append]
      exact Ent.cons (Ent.empties (Ent.refl _) _ e2)

theorem SameRowW_spec (As : List HP) (a b : Option Addr) (ca cb : Nat) (xs ys : List Int) (hx : RdsL As a (Xy xs)) (hy : RdsL As b (Xy ys)) (hl : xs.length ≤ 9223372036854775807) : Fn Tryz.prog 65 #[.slice a xs.length ca, .slice b ys.length cb] As (fun v l => v = .bool (decide (xs = ys)) ∧ l = As) := by
 refine Qo (vs := [.slice a xs.length ca, .slice b ys.length cb]) Tryz.func65 rfl Tryz.ntmps65 rfl (Qb (Qa (Qd rfl rfl (WpL.nil (Qb (Qb (Qa (Qc rfl rfl (QM rfl rfl (Qc rfl rfl (QM rfl rfl (Xs rfl rfl rfl ?_))))))))))))
 refine WpL.nil (Qh rfl (fun h0 => ?_) (fun h0 => ?_))
 ·refine Qb (Qa (Qd rfl rfl (WpL.nil (Qg ?_))))
  apply RetQ.mk
  ·exact (Res.one rfl rfl)
  ·exact ⟨congrArg Value.bool (df fun e => h0 (by rw [e])), rfl⟩
  ·exact Ent.refl _
 ·have hlen : xs.length = ys.length := by omega
  refine Wp.skip (Qb (Qb (Qa (Qd rfl rfl (WpL.nil (Wp.block ?_))))))
  refine Wp.loopD (σ := Nat) (fun k => k ≤ xs.length ∧ xs.take k = ys.take k) [4, 5, 11, 12, 13, 14, 15, 16, 17, 18, 19, 20, 21, 22, 23, 24, 25] (fun k => [(5, .int .i64 (k : Int))]) (fun _ => _) (fun k => xs.length - k) 0 ?_ (by repeat (first | exact FrLe.nil | refine FrLe.cons rfl ?_)) (Ent.refl _) ?_
  ·exact ⟨Nat.zero_le _, rfl⟩
  ·rintro k ⟨hk, htk⟩
   refine Qb (Qb (Qa (Qc rfl rfl (Qc rfl rfl (QM rfl rfl (Q9 rfl rfl rfl (WpL.nil (Qh rfl (fun h2 => ?_) (fun h2 => ?_)))))))))
   ·have hkx : k < xs.length := by omega
    have hky : k < ys.length := by omega
    refine Wp.skip (Qb (Wp.block ?_))
    refine Qb ?_
    apply Q2 mixed [⟨17, _, []⟩, ⟨18, _, []⟩, ⟨19, _, [0, 1]⟩, ⟨20, _, [2]⟩, ⟨21, _, []⟩, ⟨22, _, []⟩, ⟨23, _, [4, 5]⟩, ⟨24, _, [6]⟩, ⟨25, _, [3, 7]⟩] rfl
    ·refine AllObs.mk ?_ ?_
     ·exact Qc rfl rfl (Qm rfl)
     refine AllObs.mk ?_ ?_
     ·exact Qc rfl rfl (Qm rfl)
     refine AllObs.mk ?_ ?_
     ·refine Xo k rfl rfl rfl hx (Ent.refl _) rfl (by omega) (by rw [Zb]; exact hkx) ?_
      exact Qm rfl
     refine AllObs.mk ?_ ?_
     ·refine Xp rfl rfl hx (Ent.refl _) (pxs_at xs hkx) ?_
      exact Qm rfl
     refine AllObs.mk ?_ ?_
     ·exact Qc rfl rfl (Qm rfl)
     refine AllObs.mk ?_ ?_
     ·exact Qc rfl rfl (Qm rfl)
     refine AllObs.mk ?_ ?_
     ·refine Xo k rfl rfl rfl hy (Ent.refl _) rfl hky (by rw [Zb]; exact hky) ?_
      exact Qm rfl
     refine AllObs.mk ?_ ?_
     ·refine Xp rfl rfl hy (Ent.refl _) (pxs_at ys hky) ?_
      exact Qm rfl
     refine AllObs.mk ?_ ?_
     ·exact Xs rfl rfl rfl (Qm rfl)
     exact AllObs.nil
    ·refine Qh rfl (fun h3 => ?_) (fun h3 => ?_)
     ·refine Qb (Qa (Qd rfl rfl (WpL.nil (Qg ?_))))
      apply RetQ.mk
      ·exact (Res.one rfl rfl)
      ·exact ⟨congrArg Value.bool (df fun e => h3 (by subst e; rfl)), rfl⟩
      ·exact Ent.refl _
     ·refine Wp.skip (Qa (Qc rfl rfl (Qw rfl rfl rfl (Qp (by omega) (by omega)) ?_)))
      refine Qd rfl rfl (WpL.nil (Qq (k + 1) ?_ ?_ (by ((repeat (first | exact Top.refl | refine Top.push rfl ?_)); done)) (by repeat (first | exact FrLe.nil | refine FrLe.cons rfl ?_)) ?_))
      ·refine ⟨by omega, ?_⟩
       rw [List.take_succ_eq_append_getElem hkx, List.take_succ_eq_append_getElem hky, htk, Classical.not_not.1 h3]
      ·omega
      ·exact Ent.refl _
   ·obtain rfl : k = xs.length := by omega
    have hxy : xs = ys := by rw [List.take_length, hlen, List.take_length] at htk; exact htk
    refine QS (Qb (Qa (Qd rfl rfl (WpL.nil (Qg ?_)))))
    apply RetQ.mk
    ·exact (Res.one rfl rfl)
    ·exact ⟨congrArg Value.bool (dt hxy), rfl⟩
    ·exact Ent.refl _

end Go.Proofs.YtggamdlpiejbiaaGreat
