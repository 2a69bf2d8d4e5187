/- Walks and plain laws, a part of the proof of PnmOpen: every input that the law's guards let in, no condition beside. -/
import Derived.Test.YtggamdlpiejbiaaGreatM26
namespace Go.Proofs.YtggamdlpiejbiaaGreat
open Go.RowKit Go.Shelf


theorem fit_can {p C M : Int} (hf : FmtP C M) (h : Can C M p) : FitP p C M := ⟨hf, h.1, fun n hn => (h.2.2 n hn).2⟩
theorem kinds_mem {C M k : Int} (h : k ∈ Xh C M) : FmtP C M ∧ (1 ≤ k ∧ k ≤ 6) ∧ QZ k = C ∧ ((k = 1 ∨ k = 4) → M = 1) := by
  unfold Xh at h
  split at h
  · rename_i hf
    obtain ⟨i, hi, rfl⟩ := List.mem_map.1 h
    obtain ⟨h1, h2⟩ := List.mem_filter.1 hi
    unfold kP at h2
    simp only [Bool.and_eq_true, decide_eq_true_eq] at h2
    have h3 := List.mem_range.1 h1
    refine ⟨hf, by omega, ?_, by omega⟩
    have := hf.1
    unfold QZ
    split <;> omega
  · simp at h
theorem good_sz {most : Int} {m : Img} (hmo : most ≤ 100) (h : GoodI most m) : (0 ≤ m.w * m.h ∧ m.w * m.h ≤ 10000) ∧ m.px.length ≤ 10000 := by
  obtain ⟨_, _, hw, hh, hl, _⟩ := h
  have h1 : m.w * m.h ≤ 100 * 100 := Int.mul_le_mul (by omega) (by omega) (by omega) (by omega)
  have h2 : 0 ≤ m.w * m.h := Int.mul_nonneg (by omega) (by omega)
  omega
theorem good_fits {most : Int} {m : Img} {k : Int} (hmo : most ≤ 100) (h : GoodI most m) (hk : k ∈ Xh m.c m.m) : XW k m.w m.h m.m ∧ (∀ p ∈ m.px, FitP p (QZ k) m.m) ∧ FitsM m.c m.m m.w m.h m.px := by
  obtain ⟨hf, hk6, hc, h1⟩ := kinds_mem hk
  have hz := good_sz hmo h
  obtain ⟨_, hm, hw, hh, hl, hp⟩ := h
  refine ⟨⟨hk6, by omega, by omega, hm, h1⟩, fun p hpp => by rw [hc]; exact fit_can hf (hp p hpp).1, ⟨by omega, by omega, by omega⟩, hl, fun p hpp => fit_can hf (hp p hpp).1⟩
/-- An image's bytes. -/
def wrI (m : Img) (k : Int) : List Int := hdW k m.w m.h m.m ++ (if k < 4 then wrL k m.w 0 m.px else Y8 k m.w.toNat (Ql m.m) m.px m.h.toNat)
theorem hdW_len {K W H M : Int} (hK : K ≤ 6) (hW : W ≤ 100) (hH : H ≤ 100) (hM : M ≤ 65535) : (hdW K W H M).length ≤ 100000 := by
  have h1 := Za K.toNat
  have h2 := Za W.toNat
  have h3 := Za H.toNat
  have h4 := Za M.toNat
  unfold hdW
  simp only [List.length_append, List.length_cons, List.length_nil]
  split <;> simp only [List.length_append, List.length_cons, List.length_nil] <;> omega

theorem rWrite10_spec (A0 : HP) (m : Img) (a : Option Addr) (c : Nat) (hA : RdsL [A0] a (XP m.px)) (most : Int) (hmo : most ≤ 100) (hg : GoodI most m) (k : Int) (hk : k ∈ Xh m.c m.m) : Fn Tryz.prog 34 #[.agg #[.int .i64 m.c, .int .i64 m.m, .int .i64 m.w, .int .i64 m.h, .slice a m.px.length c], .int .i64 k] [A0] (fun v l => ∃ B b e, RdsL [B] b (XE (wrI m k)) ∧ v = .tuple #[.slice b (wrI m k).length e, .int .i64 0] ∧ l = [B, A0]) := by
 obtain ⟨hMay, hfit, hfm⟩ := good_fits hmo hg hk
 obtain ⟨hz1, hz2⟩ := good_sz hmo hg
 have hb : ∀ p ∈ m.px, 0 ≤ p ∧ p < 18446744073709551616 := fun p hp => (hg.2.2.2.2.2 p hp).2
 have hM2 := hMay
 unfold XW at hM2
 obtain ⟨_, hg2, hgw, hgh, hgl, _⟩ := id hg
 have hWn : ((m.w.toNat : Nat) : Int) = m.w := by omega
 have hHn : ((m.h.toNat : Nat) : Int) = m.h := by omega
 have hz6 := hdW_len (K := k) (W := m.w) (H := m.h) (M := m.m) (by omega) (by omega) (by omega) (by omega)
 refine Qp (vs := [.agg #[.int .i64 m.c, .int .i64 m.m, .int .i64 m.w, .int .i64 m.h, .slice a m.px.length c], .int .i64 k]) Tryz.func34 rfl Tryz.ntmps34 rfl (Qb (Qa (Xd rfl rfl rfl ?_)))
 intro gI
 refine Qd rfl rfl (Qd rfl rfl (WpL.nil (Qb (Qa ?_))))
 refine Qy (vs := [_, _, _, _, _]) rfl rfl rfl (by rfl) ?_
 refine Qc rfl rfl (Qk rfl rfl (by repeat' constructor) (rTells_spec [A0] m.c m.m m.w m.h a c m.px hA hb (by omega) k) ?_)
 rintro _ _ ⟨rfl, rfl⟩
 simp only [Qw]
 refine Qd rfl rfl (WpL.nil (Qb (Qb (Qa (Qc rfl rfl (Yk rfl rfl (WpL.nil (Qi rfl (fun h0 => ?_) (fun h0 => ?_)))))))))
 ·exfalso; exact absurd ⟨hk, hfm⟩ h0
 ·refine Wp.skip (Qb (Qa (Qc rfl rfl (Qj (o2 := 2) rfl rfl rfl (Qj (o2 := 2) rfl rfl rfl (Qo rfl rfl (by rfl) ?_))))))
  refine Qj (o2 := 2) rfl rfl rfl (Qj (o2 := 3) rfl rfl rfl (Qo rfl rfl (by rfl) ?_))
  refine Qj (o2 := 0) rfl rfl rfl (Qj (o2 := 1) rfl rfl rfl (Qo rfl rfl (by rfl) ?_))
  refine Xj rfl rfl ?_
  refine X6 rfl ?_
  intro gH
  refine QE rfl rfl rfl (by rfl) rfl ?_
  refine WpL.nil (Qb (Qa ?_))
  refine Qy (vs := [_, _, _, _]) rfl rfl rfl (by rfl) ?_
  refine Qk rfl rfl (by repeat' constructor) (rWrite06_spec _ _ _ _ hMay) ?_
  rintro _ _ ⟨s6, hs6, rfl, rfl⟩
  simp only [Qw]
  have hs6z : s6.size ≤ 100000 := by rw [← Q8, hs6]; exact hz6
  refine Qc rfl rfl (QO rfl rfl rfl (QO rfl rfl rfl (Qd rfl rfl (Qd rfl rfl (WpL.nil (Qb (Qb (Qa (Qc rfl rfl (Xa rfl rfl rfl (WpL.nil (Qi rfl (fun h1 => ?_) (fun h1 => ?_)))))))))))))
  ·refine Qb (Qa (Qj (o2 := 2) rfl rfl rfl (Qj (o2 := 4) rfl rfl rfl (Qo rfl rfl (by rfl) ?_))))
   refine Qy (vs := [_, _, _, _]) rfl rfl rfl (by rfl) ?_
   refine Qk rfl rfl (by repeat' constructor) (rWrite_spec A0 a c m.px hA hb (by omega) k m.w m.h m.m) ?_
   rintro _ _ ⟨s8, e8, rfl, hs8, rfl⟩
   simp only [Qw]
   obtain ⟨_, rfl, hs8, hz8⟩ : WrP k m.w m.h m.m m.px ∧ e8 = 0 ∧ QX s8 = wrL k m.w 0 m.px ∧ s8.size ≤ m.px.length * 300000 := by
    rcases hs8 with q | q
    ·exact q
    ·exact absurd (⟨⟨hMay, by omega⟩, hgl, hfit⟩ : WrP k m.w m.h m.m m.px) q.1
   refine Qc rfl rfl (QO rfl rfl rfl (QO rfl rfl rfl (Qd rfl rfl (Qd rfl rfl (WpL.nil (Qb (Qa (Qc rfl rfl (Qc rfl rfl (Ze rfl rfl rfl (by omega) ?_))))))))))
   refine s_t2b rfl Tryz.underlying9 Tryz.underlying22 Tryz.underlying5 rfl ?_
   intro gB cB
   rw [show QX (s6 ++ s8) = wrI m k by rw [Yq, hs6, hs8, wrI, if_pos (by omega)]]
   refine Qd rfl rfl (Qd rfl rfl (WpL.nil (Qh ?_)))
   apply RetQ.mk
   ·exact (QU rfl rfl rfl)
   ·exact ⟨rdo gB _, _, cB, RdsL.rdo, rfl, rfl⟩
   ·exact Qf (by repeat' constructor)
  ·have hpl : m.px.length = m.w.toNat * m.h.toNat := by
    have q : ((m.w.toNat * m.h.toNat : Nat) : Int) = m.w * m.h := by rw [Int.natCast_mul, hWn, hHn]
    omega
   have hw9 := rWrite09_spec A0 a c m.px hA hb k m.w.toNat m.h.toNat m.m (by rw [hWn, hHn]; exact ⟨hMay, by omega⟩) hpl hfit (by omega)
   rw [hWn, hHn] at hw9
   have hwl := wrRaw_len (K := k) (w := Ql m.m) (Xe m.m) hpl (fun p hp => by have := can_fit (hfit p hp); omega) m.h.toNat (Nat.le_refl _)
   have hsb := X1 (K := k) (W := m.w.toNat) (Xe m.m) (by omega) (by omega)
   have hwl2 : (Y8 k m.w.toNat (Ql m.m) m.px m.h.toNat).length ≤ 24576 * 100 := by rw [hwl]; exact Nat.mul_le_mul hsb.2 (by omega)
   refine Wp.skip (Qb (Qa (Qj (o2 := 2) rfl rfl rfl (Qj (o2 := 4) rfl rfl rfl (Qo rfl rfl (by rfl) ?_)))))
   refine Qy (vs := [_, _, _, _]) rfl rfl rfl (by rfl) ?_
   refine Qk rfl rfl (by repeat' constructor) (hw9) ?_
   rintro _ _ ⟨a9, c9, rfl, rfl⟩
   simp only [Qw]
   refine Qc rfl rfl (QO rfl rfl rfl (QO rfl rfl rfl (Qd rfl rfl (Qd rfl rfl (WpL.nil (Qb (Qa (Qd rfl rfl (WpL.nil (Qb (Qa (Qc rfl rfl ?_))))))))))))
   refine Qc rfl rfl (s_t2b rfl Tryz.underlying9 Tryz.underlying22 Tryz.underlying5 rfl ?_)
   intro gB cB
   rw [hs6]
   refine WpL.ent (Ent.own_nil (T := 5) (s := 1) (Ent.refl _)) ?_
   refine s_appR (xs := []) (m2 := (hdW k m.w m.h m.m).length) rfl rfl rfl (by repeat' constructor) RdsL.rdo (by exact Qf (by repeat' constructor)) (by rw [Xv, Nat.mul_one]) (by rfl) (by rfl) (u8s_one _) (by omega) (by omega) ?_
   intro a61 c61
   rw [List.nil_append, Nat.zero_add]
   refine Qd rfl rfl (WpL.nil (Qb (Qa (Qc rfl rfl (Qc rfl rfl (s_appo rfl rfl rfl (by repeat' constructor) (by rfl) (by rfl) (u8s_one _) (by omega) (by omega) ?_))))))
   intro a64 c64
   rw [u8s_app, ← List.length_append, show hdW k m.w m.h m.m ++ Y8 k m.w.toNat (Ql m.m) m.px m.h.toNat = wrI m k by rw [wrI, if_neg (by omega)]]
   refine Qd rfl rfl (Qd rfl rfl (WpL.nil (Qh ?_)))
   apply RetQ.mk
   ·exact (QU rfl rfl rfl)
   ·exact ⟨own 5 1 a64 c64 (wrI m k).length (XE (wrI m k)), a64, c64, Q7, rfl, rfl⟩
   ·exact Qf (by repeat' constructor)

end Go.Proofs.YtggamdlpiejbiaaGreat
namespace Go.Proofs.YtggamdlpiejbiaaGreat
open Go.RowKit Go.Shelf


/-- Images' bytes, joined. -/
def Y7 : List Img → List Int → List Int
  | m :: ms, k :: ks => wrI m k ++ (if k < 4 then [10] else []) ++ Y7 ms ks
  | _, _ => []
theorem joinI_snoc {m : Img} {k : Int} : ∀ {ms : List Img} {ks : List Int}, ms.length = ks.length → Y7 (ms ++ [m]) (ks ++ [k]) = Y7 ms ks ++ wrI m k ++ (if k < 4 then [10] else [])
  | [], [], _ => by simp [Y7]
  | a :: ms, b :: ks, h => by
    simp only [List.cons_append, Y7]
    rw [joinI_snoc (by simpa using h)]
    simp only [List.append_assoc]
  | [], _ :: _, h => by simp at h
  | _ :: _, [], h => by simp at h
theorem wrI_len {most : Int} {m : Img} {k : Int} (hmo : most ≤ 100) (hg : GoodI most m) (hk : k ∈ Xh m.c m.m) : (wrI m k).length ≤ 3000000 := by
  obtain ⟨hMay, hfit, hfm⟩ := good_fits hmo hg hk
  obtain ⟨hz1, hz2⟩ := good_sz hmo hg
  have hM2 := hMay
  unfold XW at hM2
  obtain ⟨_, hg2, hgw, hgh, hgl, _⟩ := id hg
  have hz6 := hdW_len (K := k) (W := m.w) (H := m.h) (M := m.m) (by omega) (by omega) (by omega) (by omega)
  have hWn : ((m.w.toNat : Nat) : Int) = m.w := by omega
  have hHn : ((m.h.toNat : Nat) : Int) = m.h := by omega
  have hpl : m.px.length = m.w.toNat * m.h.toNat := by
    have q : ((m.w.toNat * m.h.toNat : Nat) : Int) = m.w * m.h := by rw [Int.natCast_mul, hWn, hHn]
    omega
  have hwl := wrRaw_len (K := k) (w := Ql m.m) (Xe m.m) hpl (fun p hp => by have := can_fit (hfit p hp); omega) m.h.toNat (Nat.le_refl _)
  have hsb := X1 (K := k) (W := m.w.toNat) (Xe m.m) (by omega) (by omega)
  have hwl2 : (Y8 k m.w.toNat (Ql m.m) m.px m.h.toNat).length ≤ 24576 * 100 := by rw [hwl]; exact Nat.mul_le_mul hsb.2 (by omega)
  have h8 := wrL_len (K := k) (W := m.w) m.px 0
  unfold wrI
  rw [List.length_append]
  split <;> omega

theorem rJoin_spec (A1 A0 A2 : HP) (la : Option Addr) (lc : Nat) (L : List (Img × Option Addr × Nat)) (hL : RdsL [A1] la (L.flatMap iC)) (hpx : ∀ r ∈ L, RdsL [A0] r.2.1 (XP r.1.px)) (most : Int) (hmo : most ≤ 100) (hgd : ∀ r ∈ L, GoodI most r.1) (hl : L.length ≤ 1000) (ka : Option Addr) (kc : Nat) (ks : List Int) (hk : RdsL [A2] ka (Q5 ks)) (hko : KindsOk (L.map (·.1)) ks) : Fn Tryz.prog 26 #[.slice la L.length lc, .slice ka ks.length kc] [A1, A0, A2] (fun v l => ∃ a c, v = .tuple #[.slice a (Y7 (L.map (·.1)) ks).length c, .int .i64 0] ∧ l = [own 5 1 a c (Y7 (L.map (·.1)) ks).length (XE (Y7 (L.map (·.1)) ks)), A1, A0, A2]) := by
 have hll : L.length = ks.length := by rw [← hko.len, List.length_map]
 refine Qp (vs := [.slice la L.length lc, .slice ka ks.length kc]) Tryz.func26 rfl Tryz.ntmps26 rfl (Qb (Qa (Qd rfl rfl (Qd rfl rfl (WpL.nil (Qb (Qa (Qd rfl rfl (WpL.nil (Qb (Qb (Qa ?_))))))))))))
 refine Qc rfl rfl (QM rfl rfl (Qc rfl rfl (QM rfl rfl (Xr rfl rfl rfl (WpL.nil (QB rfl (fun hn => hn (by omega)) ?_))))))
 refine Wp.skip (Qb (Qb (Qa (Qd rfl rfl (WpL.nil (Wp.block ?_))))))
 refine Wp.loopD (σ := KdX) (fun x => x.k ≤ L.length ∧ x.out = Y7 ((L.take x.k).map (·.1)) (ks.take x.k) ∧ x.out.length ≤ x.k * 3000001) [4, 5, 6, 7, 8, 9, 15, 16, 17, 18, 19, 20, 21, 22, 23, 24, 25, 26, 27, 28, 29, 30, 31, 32, 33, 34, 35, 36, 37, 38, 39, 40, 41, 42, 43, 44, 45, 46] (fun x => [(7, .int .i64 (x.k : Int)), (6, .slice x.a x.out.length x.c)]) (fun x => [own 5 1 x.a x.c x.out.length (XE x.out), A1, A0, A2]) (fun x => L.length - x.k) ⟨0, [], none, 0⟩ ?_ (by repeat (first | exact FrLe.nil | refine FrLe.cons rfl ?_)) ?_ ?_
 ·exact ⟨Nat.zero_le _, rfl, Nat.zero_le _⟩
 ·exact Ent.own_nil (Ent.refl _)
 ·rintro ⟨k, out, a, c⟩ ⟨hk1, ho, hol⟩
  dsimp only at hk1 ho hol ⊢
  refine Qb (Qb (Qa (Qc rfl rfl (Qc rfl rfl (QM rfl rfl (Xa rfl rfl rfl (WpL.nil (Qi rfl (fun h2 => ?_) (fun h2 => ?_)))))))))
  ·have hlt : k < L.length := by omega
   have hlk : k < ks.length := by omega
   have hkm := hko.get k (by rw [List.length_map]; exact hlt) hlk
   rw [List.getElem_map] at hkm
   have hgk := hgd _ (List.getElem_mem hlt)
   have hwl := wrI_len hmo hgk hkm
   have hsn : Y7 ((L.take (k + 1)).map (·.1)) (ks.take (k + 1)) = Y7 ((L.take k).map (·.1)) (ks.take k) ++ (wrI L[k].1 ks[k]) ++ (if ks[k] < 4 then [10] else []) := by
    rw [XR L hlt, XR ks hlk, List.map_append]
    exact joinI_snoc (by rw [List.length_map, List.length_take, List.length_take]; omega)
   refine Wp.skip (Qb (Wp.block ?_))
   refine Qb ?_
   apply Xf (fB := []) mixed [(8, false)] (by kernel_rfl)
   apply Q4 [⟨0, 22, _, [], false⟩, ⟨1, 23, _, [], false⟩, ⟨2, 24, _, [0, 1], false⟩, ⟨3, 25, _, [2], false⟩, ⟨4, 26, _, [], false⟩, ⟨5, 27, _, [], false⟩, ⟨6, 28, _, [4, 5], false⟩, ⟨7, 29, _, [6], false⟩] [] [0, 1, 2, 3, 4, 5, 6, 7] [21, 31, 32, 8, 9] (.inr rfl) rfl rfl rfl (by kernel_rfl) rfl rfl rfl
   ·refine AllF.cons rfl rfl rfl rfl ?_ ?_
    ·exact Qc rfl rfl (Qn rfl)
    refine AllF.cons rfl rfl rfl rfl ?_ ?_
    ·exact Qc rfl rfl (Qn rfl)
    refine AllF.cons rfl rfl rfl rfl ?_ ?_
    ·refine s_ixR (s := 5) k rfl rfl rfl hL (by exact Qf (by repeat' constructor)) rfl (by omega) (iC_ne (by omega)) ?_
     exact Qn rfl
    refine AllF.cons rfl rfl rfl rfl ?_ ?_
    ·refine s_ldaX (vs := iC L[k]) rfl rfl hL (by exact Qf (by repeat' constructor)) (iC_ne (by omega)) rfl (flat_seg (s := 5) (f := iC) (fun _ => rfl) L k hlt) ?_
     exact Qn rfl
    refine AllF.cons rfl rfl rfl rfl ?_ ?_
    ·exact Qc rfl rfl (Qn rfl)
    refine AllF.cons rfl rfl rfl rfl ?_ ?_
    ·exact Qc rfl rfl (Qn rfl)
    refine AllF.cons rfl rfl rfl rfl ?_ ?_
    ·refine Xo k rfl rfl rfl hk (by exact Qf (by repeat' constructor)) rfl (by omega) (by rw [Xm]; omega) ?_
     exact Qn rfl
    refine AllF.cons rfl rfl rfl rfl ?_ ?_
    ·refine Xp rfl rfl hk (by exact Qf (by repeat' constructor)) (XF ks hlk) ?_
     exact Qn rfl
    exact AllF.nil
   ·refine Qk rfl rfl (by repeat' constructor) (rWrite10_spec A0 L[k].1 L[k].2.1 L[k].2.2 (hpx _ (List.getElem_mem hlt)) most hmo hgk ks[k] hkm) ?_
    rintro _ _ ⟨B, b8, e8, hB, rfl, rfl⟩
    simp only [Qw]
    refine WpL.nil ⟨rfl, rfl, ?_⟩
    apply GoR.nil [⟨9, 21, _, [8], false⟩, ⟨10, 31, _, [9], false⟩, ⟨11, 32, _, [9], false⟩, ⟨12, 8, _, [0, 1, 2, 3, 4, 5, 6, 7, 8, 9, 10], false⟩, ⟨13, 9, _, [0, 1, 2, 3, 4, 5, 6, 7, 8, 9, 10, 11, 12], false⟩] (.inr rfl) rfl rfl
    ·refine AllF.cons rfl rfl rfl rfl ?_ ?_
     ·exact Qc rfl rfl (Qn rfl)
     refine AllF.cons rfl rfl rfl rfl ?_ ?_
     ·exact QO rfl rfl rfl (Qn rfl)
     refine AllF.cons rfl rfl rfl rfl ?_ ?_
     ·exact QO rfl rfl rfl (Qn rfl)
     refine AllF.cons rfl rfl rfl rfl ?_ ?_
     ·exact Qd rfl rfl (Qn rfl)
     refine AllF.cons rfl rfl rfl rfl ?_ ?_
     ·exact Qd rfl rfl (Qn rfl)
     exact AllF.nil
    ·refine Qb (Qb (Qa (Qc rfl rfl (Xr rfl rfl rfl (WpL.nil (QB rfl (by decide) (Wp.skip (Qb (Qa (Qc rfl rfl (Qc rfl rfl (s_appR (m2 := (wrI L[k].1 ks[k]).length) rfl rfl rfl (by repeat' constructor) hB (by exact Qf (by repeat' constructor)) (by rw [Xv, Nat.mul_one]) (by rfl) (by rfl) (u8s_one _) (by omega) (by omega) ?_))))))))))))
     intro a38 c38
     rw [u8s_app, ← List.length_append]
     have hl38 : (out ++ (wrI L[k].1 ks[k])).length = out.length + (wrI L[k].1 ks[k]).length := List.length_append
     refine Qd rfl rfl (WpL.nil (Qb (Qa (Qc rfl rfl (Qc rfl rfl (Xo k rfl rfl rfl hk (by exact Qf (by repeat' constructor)) rfl (by omega) (by rw [Xm]; omega) ?_))))))
     refine Xp rfl rfl hk (by exact Qf (by repeat' constructor)) (XF ks hlk) ?_
     refine Xa rfl rfl rfl (WpL.nil (Qi rfl (fun h4 => ?_) (fun h4 => ?_)))
     ·refine Qa (Qc rfl rfl ?_)
      refine X0 rfl rfl rfl rfl ?_
      intro g1
      refine Xt rfl rfl rfl (by repeat' constructor) (by rfl) (by rfl) (by rfl) (by rfl) (by omega) (by omega) ?_
      intro a46 c46
      rw [u8s_snoc, show (out ++ (wrI L[k].1 ks[k])).length + 1 = ((out ++ (wrI L[k].1 ks[k])) ++ [10]).length from by simp only [List.length_append, List.length_cons, List.length_nil, Nat.zero_add]]
      refine Qd rfl rfl (WpL.nil (Qa (Qc rfl rfl (Qx rfl rfl rfl (Qq (by omega) (by omega)) ?_))))
      refine Qd rfl rfl (WpL.nil (Qr (⟨k + 1, out ++ (wrI L[k].1 ks[k]) ++ [10], a46, c46⟩ : KdX) ?_ ?_ (by ((repeat (first | exact Top.refl | refine Top.push rfl ?_)); done)) (by repeat (first | exact FrLe.nil | refine FrLe.cons rfl ?_)) ?_))
      ·exact ⟨by simp only; omega, by simp only; rw [hsn, if_pos (by omega), ho], by simp only [List.length_append, List.length_cons, List.length_nil]; omega⟩
      ·simp only; omega
      ·exact Qf (by repeat' constructor)
     ·refine Wp.skip (Qa (Qc rfl rfl (Qx rfl rfl rfl (Qq (by omega) (by omega)) ?_)))
      refine Qd rfl rfl (WpL.nil (Qr (⟨k + 1, out ++ (wrI L[k].1 ks[k]), a38, c38⟩ : KdX) ?_ ?_ (by ((repeat (first | exact Top.refl | refine Top.push rfl ?_)); done)) (by repeat (first | exact FrLe.nil | refine FrLe.cons rfl ?_)) ?_))
      ·exact ⟨by simp only; omega, by simp only; rw [hsn, if_neg (by omega), List.append_nil, ho], by simp only [List.length_append]; omega⟩
      ·simp only; omega
      ·exact Qf (by repeat' constructor)
  ·have hkE : k = L.length := by omega
   rw [hkE, List.take_length, hll, List.take_length] at ho
   subst ho
   refine QV (Qb (Qa (Qc rfl rfl (Qd rfl rfl (Qd rfl rfl (WpL.nil (Qh ?_)))))))
   apply RetQ.mk
   ·exact (QU rfl rfl rfl)
   ·exact ⟨a, c, rfl, rfl⟩
   ·exact Ent.refl _

end Go.Proofs.YtggamdlpiejbiaaGreat
namespace Go.Proofs.YtggamdlpiejbiaaGreat
open Go.RowKit Go.Shelf


theorem joinI_bd {most : Int} (hmo : most ≤ 100) : ∀ {ms : List Img} {ks : List Int}, KindsOk ms ks → (∀ m ∈ ms, GoodI most m) → (Y7 ms ks).length ≤ ms.length * 3000001
  | [], [], _, _ => by simp [Y7]
  | m :: ms, k :: ks, ⟨h1, h2⟩, hg => by
    have ih := joinI_bd hmo h2 fun x hx => hg x (List.mem_cons_of_mem _ hx)
    have hw := wrI_len hmo (hg m (List.mem_cons_self ..)) h1
    simp only [Y7, List.length_append, List.length_cons]
    split <;> simp only [List.length_cons, List.length_nil] <;> omega
theorem hdW_bd {K W H M : Int} : ∀ b ∈ hdW K W H M, 0 ≤ b ∧ b ≤ 255 := by
  intro b hb
  unfold hdW at hb
  have hd : ∀ n, b ∈ YY n → 0 ≤ b ∧ b ≤ 255 := fun n h => by have := digs_bd n b h; omega
  simp only [List.mem_append, List.mem_singleton] at hb
  rcases hb with ((((((h | h) | h) | h) | h) | h) | h) | h
  · omega
  · exact hd _ h
  · omega
  · exact hd _ h
  · omega
  · exact hd _ h
  · omega
  · split at h
    · simp at h
    · rcases List.mem_append.1 h with h | h
      · exact hd _ h
      · have := List.mem_singleton.1 h; omega

end Go.Proofs.YtggamdlpiejbiaaGreat
namespace Go.Proofs.YtggamdlpiejbiaaGreat
open Go.RowKit Go.Shelf


theorem wrI_byte {most : Int} {m : Img} {k : Int} (hmo : most ≤ 100) (hg : GoodI most m) (hk : k ∈ Xh m.c m.m) : ∀ b ∈ wrI m k, 0 ≤ b ∧ b ≤ 255 := by
  intro b hb
  obtain ⟨_, _, hc, h4⟩ := kinds_mem hk
  unfold wrI at hb
  rcases List.mem_append.1 hb with h | h
  · exact hdW_bd b h
  · split at h
    · exact wrL_byte _ _ b h
    · exact wrRaw_bd hg.2.1 (fun q => h4 (.inr q)) (fun p hp => by rw [hc]; exact (hg.2.2.2.2.2 p hp).1) b h
theorem joinI_byte {most : Int} (hmo : most ≤ 100) : ∀ {ms : List Img} {ks : List Int}, KindsOk ms ks → (∀ m ∈ ms, GoodI most m) → ∀ b ∈ Y7 ms ks, 0 ≤ b ∧ b ≤ 255
  | [], [], _, _ => by simp [Y7]
  | m :: ms, k :: ks, ⟨h1, h2⟩, hg => by
    intro b hb
    simp only [Y7] at hb
    rcases List.mem_append.1 hb with hb | hb
    · rcases List.mem_append.1 hb with hb | hb
      · exact wrI_byte hmo (hg m (List.mem_cons_self ..)) h1 b hb
      · split at hb
        · have := List.mem_singleton.1 hb; omega
        · simp at hb
    · exact joinI_byte hmo h2 (fun x hx => hg x (List.mem_cons_of_mem _ hx)) b hb
/-- A stream's four texts. -/
def strT (own tn : List Int) : Prop := own.length ≤ 10000000 ∧ (∀ b ∈ own, 0 ≤ b ∧ b ≤ 255) ∧ tn.length = own.length ∧ ∀ b ∈ tn, 0 ≤ b ∧ b ≤ 255
theorem byte_set {xs : List Int} {k : Nat} {c : Int} (h : ∀ b ∈ xs, 0 ≤ b ∧ b ≤ 255) (hc : 0 ≤ c ∧ c ≤ 255) : ∀ b ∈ xs.set k c, 0 ≤ b ∧ b ≤ 255 := by
  intro b hb
  rcases List.mem_or_eq_of_mem_set hb with h1 | h1
  · exact h b h1
  · rw [h1]; exact hc
theorem s_bs4 {P : Program} {n : Cx} {D : List Deferred} {ops : Array Oper} {rest : List Oper} {Q : Post} {fr : Fr} {l : List HP} {ty : Nat} {pos : String} {aft : Array Edge} {d t e by_ : Nat} {z v v2 v3 v4 : Value} {x x2 x3 x4 : Operand} (hd : Nat.blt d n = true) [ht : SlT P t e 1 by_ z] (hx : ev fr x = some v) (hx2 : ev fr x2 = some v2) (hx3 : ev fr x3 = some v3) (hx4 : ev fr x4 = some v4) (hz : z.cells.size = 1)
    (hv : v.cells = #[v]) (hv2 : v2.cells = #[v2]) (hv3 : v3.cells = #[v3]) (hv4 : v4.cells = #[v4])
    (k : ∀ g, WpL P n D ops rest Q ((d, .slice (some ⟨g, 0, none⟩) 4 4) :: fr) (QF g [v, v2, v3, v4] e :: l)) : WpL P n D ops (⟨some d, .buildSlice t 4 #[(0, x), (1, x2), (2, x3), (3, x4)], ty, pos, aft, none⟩ :: rest) Q fr l :=
  s_bs (os := [(0, x), (1, x2), (2, x3), (3, x4)]) [v, v2, v3, v4] hd hz rfl (by simp [hv, hv2, hv3, hv4]) (by simp) (fun a hh => by simp [hh.ev hx, hh.ev hx2, hh.ev hx3, hh.ev hx4]) k

theorem lstream_spec (A0 : HP) (a0 : Option Addr) (c0 : Nat) (bs : List Int) (hc0 : bs.length ≤ c0) (hbl : bs.length ≤ 9223372036854775807) (ga : Option Addr) (gc : Nat) (gs : List GS) (hgl : gs.length ≤ 9223372036854775807) (hG : RdsL [A0] ga (gs.flatMap gC)) (hgs : GsOk A0 gs) (ya : Option Addr) (yc : Nat) (ys : List Int) (hy : RdsL [A0] ya (Q5 ys)) (hyl : ys.length ≤ 9223372036854775807) (p cc q : Int) (hp : -9223372036854775808 ≤ p ∧ p < 9223372036854775808) (hcc : 0 ≤ cc ∧ cc ≤ 255) (hq : -9223372036854775808 ≤ q ∧ q < 9223372036854775808) : Fn Tryz.prog 14 #[.slice a0 bs.length c0, .slice ga gs.length gc, .slice ya ys.length yc, .int .i64 p, .int .u8 cc, .int .i64 q] [A0] (fun v l => ∃ own1 tn gT ao co at1 ct N, strT own1 tn ∧ N ≤ own1.length ∧ own1.length ≤ co ∧ own1.length ≤ ct ∧ v = .slice (some ⟨gT, 0, none⟩) 4 4 ∧ l = [QF gT [.slice a0 (min bs.length 120) c0, .slice ao own1.length co, .slice at1 own1.length ct, .slice ao N co] 22, own 5 1 ao co own1.length (XE own1), own 5 1 at1 ct own1.length (XE tn), A0]) := by
 refine Qp (vs := [.slice a0 bs.length c0, .slice ga gs.length gc, .slice ya ys.length yc, .int .i64 p, .int .u8 cc, .int .i64 q]) Tryz.func14 rfl Tryz.ntmps14 rfl (Qb (Qa (Qd rfl rfl (WpL.nil (Qb (Qa (Qc rfl rfl (Qk rfl rfl (by repeat' constructor) (rGood11_spec A0 ga gc gs hgl hG hgs 5 (by omega)) ?_))))))))
 rintro _ _ ⟨ims, ag, cg, hgd, hl3, rfl, rfl⟩
 simp only [Qw]
 refine WpL.exs Take1.here fun L => ?_
 refine WpL.pur Take1.here fun hL => ?_
 subst hL
 rw [List.length_map] at *
 have hfm : ∀ r ∈ L, FmtP r.1.c r.1.m := fun r hr => by have q := hgd r.1 (List.mem_map_of_mem hr); exact ⟨q.1, q.2.1⟩
 refine Qd rfl rfl (WpL.nil (Qb (Qa (Qc rfl rfl (Qc rfl rfl (Qc rfl rfl (Qk rfl rfl (by repeat' constructor) (rKinds11_spec [own 71 5 ag cg L.length (L.flatMap iC), A0] ag cg L Q7.head hfm (by omega) ya yc ys hy.tail hyl) ?_)))))))
 rintro _ _ ⟨ks, ak, ck, hko, rfl, rfl⟩
 simp only [Qw]
 refine Qk rfl rfl (by repeat' constructor) (rJoin_spec (own 71 5 ag cg L.length (L.flatMap iC)) (Zb (L.map fun r => own 92 1 r.2.1 r.2.2 r.1.px.length (XP r.1.px))) (own 3 1 ak ck ks.length (Q5 ks)) ag cg L Q7 (fun r hr => rc_row (row := Img.px) hr) 5 (by omega) (fun r hr => hgd r.1 (List.mem_map_of_mem hr)) (by omega) ak ck ks Q7 hko) ?_
 rintro _ _ ⟨ao, co, rfl, rfl⟩
 simp only [Qw]
 have hjl := joinI_bd (by omega) hko hgd
 have hjb := joinI_byte (by omega) hko hgd
 generalize (Y7 (L.map (·.1)) ks) = own1 at *
 rw [List.length_map] at hjl
 have haq := Yp (x := q) (m := own1.length + 1) (by omega)
 refine YR (by repeat' constructor) (fun hco => ?_)
 refine Qc rfl rfl (QO rfl rfl rfl (QO rfl rfl rfl (Qd rfl rfl (Qd rfl rfl (WpL.nil (Qb (Qa (Qd rfl rfl (WpL.nil (Qb (Qa (Qc rfl rfl ?_))))))))))))
 refine Qc rfl rfl (WpL.ent (Ent.own_nil (T := 5) (s := 1) (Ent.refl _)) ?_)
 refine s_appR (xs := []) (m2 := own1.length) rfl rfl rfl (by repeat' constructor) (Q7 (T := 5) (s := 1) (a := ao) (c := co) (m := own1.length)) (by exact Qf (by repeat' constructor)) (by rw [Xv, Nat.mul_one]) (by rfl) (by rfl) (u8s_one _) (by omega) (by omega) ?_
 intro a29 c29
 rw [List.nil_append, Nat.zero_add]
 refine YR (by repeat' constructor) (fun hct => ?_)
 refine Qd rfl rfl (WpL.nil (Qb (Qb (Qa (Qc rfl rfl (QM rfl rfl (Xx rfl rfl rfl (WpL.nil (Qi rfl (fun h0 => ?_) (fun h0 => ?_))))))))))
 ·have hap := Yp (x := p) (m := own1.length) (by omega)
  have hpl : (QY p own1.length).toNat < own1.length := by omega
  refine Qa (Qc rfl rfl (Qc rfl rfl (Qc rfl rfl (QM rfl rfl (Qk rfl rfl (by repeat' constructor) (X5 _ _ (by omega) (by omega) (by omega)) ?_)))))
  rintro _ _ ⟨rfl, rfl⟩
  simp only [Qw]
  refine Qc rfl rfl (Xo (QY p own1.length).toNat rfl rfl rfl (Q7 (T := 5) (s := 1) (a := a29) (c := c29) (m := own1.length)) (by exact Qf (by repeat' constructor)) (by omega) hpl (by rw [Xv]; exact hpl) ?_)
  refine s_sto (a := a29) rfl rfl rfl (by repeat' constructor) (by rw [Xv]; exact hpl) ?_
  rw [u8s_set]
  refine WpL.nil (Qb ?_)
  apply Xf (fB := []) mixed [(14, false)] (by kernel_rfl)
  apply Q4 [⟨0, 40, _, [], false⟩, ⟨1, 41, _, [], false⟩, ⟨2, 42, _, [1], false⟩, ⟨3, 43, _, [2], false⟩, ⟨4, 44, _, [0, 3], false⟩, ⟨5, 45, _, [], false⟩, ⟨6, 46, _, [], false⟩, ⟨7, 47, _, [], false⟩, ⟨8, 48, _, [], false⟩, ⟨9, 49, _, [], false⟩, ⟨10, 50, _, [9], false⟩, ⟨11, 51, _, [10], false⟩, ⟨12, 52, _, [8, 11], false⟩, ⟨13, 53, _, [7, 12], false⟩] [] [0, 1, 2, 3, 4, 5, 6, 7, 8, 9, 10, 11, 12, 13] [12] (.inr rfl) rfl rfl rfl (by kernel_rfl) rfl rfl rfl
  ·refine AllF.cons rfl rfl rfl rfl ?_ ?_
   ·exact Qc rfl rfl (Qn rfl)
   refine AllF.cons rfl rfl rfl rfl ?_ ?_
   ·exact Qc rfl rfl (Qn rfl)
   refine AllF.cons rfl rfl rfl rfl ?_ ?_
   ·exact QM rfl rfl (WpL.nil ⟨rfl, rfl, rfl, by exact Ent.refl _⟩)
   refine AllF.cons rfl rfl rfl rfl ?_ ?_
   ·exact Z5 rfl rfl rfl (WpL.nil ⟨rfl, rfl, rfl, by exact Ent.refl _⟩)
   refine AllF.cons rfl rfl rfl rfl ?_ ?_
   ·refine s_sll_h (H := min bs.length 120) rfl rfl rfl (by omega) (by omega) ?_
    exact Qn rfl
   refine AllF.cons rfl rfl rfl rfl ?_ ?_
   ·exact Qc rfl rfl (Qn rfl)
   refine AllF.cons rfl rfl rfl rfl ?_ ?_
   ·exact Qc rfl rfl (Qn rfl)
   refine AllF.cons rfl rfl rfl rfl ?_ ?_
   ·exact Qc rfl rfl (Qn rfl)
   refine AllF.cons rfl rfl rfl rfl ?_ ?_
   ·exact Qc rfl rfl (Qn rfl)
   refine AllF.cons rfl rfl rfl rfl ?_ ?_
   ·exact Qc rfl rfl (Qn rfl)
   refine AllF.cons rfl rfl rfl rfl ?_ ?_
   ·exact QM rfl rfl (WpL.nil ⟨rfl, rfl, rfl, by exact Ent.refl _⟩)
   refine AllF.cons rfl rfl rfl rfl ?_ ?_
   ·refine Qx rfl rfl rfl (Qq (by omega) (by omega)) ?_
    exact Qn rfl
   refine AllF.cons rfl rfl rfl rfl ?_ ?_
   ·refine Qk rfl rfl (by repeat' constructor) (X5 _ _ (by omega) (by omega) (by omega)) ?_
    rintro _ _ ⟨rfl, rfl⟩
    simp only [Qw]
    exact WpL.nil ⟨rfl, rfl, rfl, by exact Ent.refl _⟩
   refine AllF.cons rfl rfl rfl rfl ?_ ?_
   ·refine s_sll_h (H := (QY q (own1.length + 1)).toNat) rfl rfl rfl (by omega) (by omega) ?_
    exact Qn rfl
   exact AllF.nil
  ·refine s_bs4 rfl rfl rfl rfl rfl rfl rfl rfl rfl rfl ?_
   intro gT
   refine WpL.nil ⟨rfl, rfl, ?_⟩
   apply GoR.nil [⟨15, 12, _, [0, 1, 2, 3, 4, 5, 6, 7, 8, 9, 10, 11, 12, 13, 14], false⟩] (.inr rfl) rfl rfl
   ·refine AllF.cons rfl rfl rfl rfl ?_ ?_
    ·exact Qd rfl rfl (Qn rfl)
    exact AllF.nil
   ·refine Qh ?_
    apply RetQ.mk
    ·exact (Res.one rfl rfl)
    ·exact ⟨own1, own1.set (QY p own1.length).toNat cc, gT, ao, co, a29, c29, (QY q (own1.length + 1)).toNat, ⟨by omega, hjb, List.length_set, byte_set hjb hcc⟩, by omega, hco, hct, rfl, rfl⟩
    ·exact Qf (by repeat' constructor)
 ·refine Wp.skip (Qb ?_)
  apply Xf (fB := []) mixed [(14, false)] (by kernel_rfl)
  apply Q4 [⟨0, 40, _, [], false⟩, ⟨1, 41, _, [], false⟩, ⟨2, 42, _, [1], false⟩, ⟨3, 43, _, [2], false⟩, ⟨4, 44, _, [0, 3], false⟩, ⟨5, 45, _, [], false⟩, ⟨6, 46, _, [], false⟩, ⟨7, 47, _, [], false⟩, ⟨8, 48, _, [], false⟩, ⟨9, 49, _, [], false⟩, ⟨10, 50, _, [9], false⟩, ⟨11, 51, _, [10], false⟩, ⟨12, 52, _, [8, 11], false⟩, ⟨13, 53, _, [7, 12], false⟩] [] [0, 1, 2, 3, 4, 5, 6, 7, 8, 9, 10, 11, 12, 13] [12] (.inr rfl) rfl rfl rfl (by kernel_rfl) rfl rfl rfl
  ·refine AllF.cons rfl rfl rfl rfl ?_ ?_
   ·exact Qc rfl rfl (Qn rfl)
   refine AllF.cons rfl rfl rfl rfl ?_ ?_
   ·exact Qc rfl rfl (Qn rfl)
   refine AllF.cons rfl rfl rfl rfl ?_ ?_
   ·exact QM rfl rfl (WpL.nil ⟨rfl, rfl, rfl, by exact Ent.refl _⟩)
   refine AllF.cons rfl rfl rfl rfl ?_ ?_
   ·exact Z5 rfl rfl rfl (WpL.nil ⟨rfl, rfl, rfl, by exact Ent.refl _⟩)
   refine AllF.cons rfl rfl rfl rfl ?_ ?_
   ·refine s_sll_h (H := min bs.length 120) rfl rfl rfl (by omega) (by omega) ?_
    exact Qn rfl
   refine AllF.cons rfl rfl rfl rfl ?_ ?_
   ·exact Qc rfl rfl (Qn rfl)
   refine AllF.cons rfl rfl rfl rfl ?_ ?_
   ·exact Qc rfl rfl (Qn rfl)
   refine AllF.cons rfl rfl rfl rfl ?_ ?_
   ·exact Qc rfl rfl (Qn rfl)
   refine AllF.cons rfl rfl rfl rfl ?_ ?_
   ·exact Qc rfl rfl (Qn rfl)
   refine AllF.cons rfl rfl rfl rfl ?_ ?_
   ·exact Qc rfl rfl (Qn rfl)
   refine AllF.cons rfl rfl rfl rfl ?_ ?_
   ·exact QM rfl rfl (WpL.nil ⟨rfl, rfl, rfl, by exact Ent.refl _⟩)
   refine AllF.cons rfl rfl rfl rfl ?_ ?_
   ·refine Qx rfl rfl rfl (Qq (by omega) (by omega)) ?_
    exact Qn rfl
   refine AllF.cons rfl rfl rfl rfl ?_ ?_
   ·refine Qk rfl rfl (by repeat' constructor) (X5 _ _ (by omega) (by omega) (by omega)) ?_
    rintro _ _ ⟨rfl, rfl⟩
    simp only [Qw]
    exact WpL.nil ⟨rfl, rfl, rfl, by exact Ent.refl _⟩
   refine AllF.cons rfl rfl rfl rfl ?_ ?_
   ·refine s_sll_h (H := (QY q (own1.length + 1)).toNat) rfl rfl rfl (by omega) (by omega) ?_
    exact Qn rfl
   exact AllF.nil
  ·refine s_bs4 rfl rfl rfl rfl rfl rfl rfl rfl rfl rfl ?_
   intro gT
   refine WpL.nil ⟨rfl, rfl, ?_⟩
   apply GoR.nil [⟨15, 12, _, [0, 1, 2, 3, 4, 5, 6, 7, 8, 9, 10, 11, 12, 13, 14], false⟩] (.inr rfl) rfl rfl
   ·refine AllF.cons rfl rfl rfl rfl ?_ ?_
    ·exact Qd rfl rfl (Qn rfl)
    exact AllF.nil
   ·refine Qh ?_
    apply RetQ.mk
    ·exact (Res.one rfl rfl)
    ·exact ⟨own1, own1, gT, ao, co, a29, c29, (QY q (own1.length + 1)).toNat, ⟨by omega, hjb, rfl, hjb⟩, by omega, hco, hct, rfl, rfl⟩
    ·exact Qf (by repeat' constructor)

end Go.Proofs.YtggamdlpiejbiaaGreat
namespace Go.Proofs.YtggamdlpiejbiaaGreat
open Go.RowKit Go.Shelf


/-- The document's example. -/
def livS (bs : List Int) : PS × Int := bs.foldl (fun q c => ((XM (QJ 4096) (QK 65536) (QL 65535) q.1 c).1, q.2 + ((XM (QJ 4096) (QK 65536) (QL 65535) q.1 c).2.length : Int))) (ps0, 0)
theorem livS_snoc (bs : List Int) (c : Int) : livS (bs ++ [c]) = ((XM (QJ 4096) (QK 65536) (QL 65535) (livS bs).1 c).1, (livS bs).2 + ((XM (QJ 4096) (QK 65536) (QL 65535) (livS bs).1 c).2.length : Int)) := by unfold livS; rw [List.foldl_append]; rfl
theorem livS_I : ∀ (bs : List Int) (_ : ∀ b ∈ bs, 0 ≤ b ∧ b ≤ 255) (n : Nat), n ≤ bs.length → psI (QJ 4096) (QK 65536) (QL 65535) n (livS (bs.take n)).1
  | bs, _, 0, _ => psI0 _ _ _
  | bs, hb, n + 1, hn => by
    have ih := livS_I bs hb n (by omega)
    have hc := hb _ (List.getElem_mem (show n < bs.length by omega))
    rw [XR bs (by omega), livS_snoc]
    exact psPut_I (lim_o 4096 65536 65535) ih hc.1 hc.2
theorem liv_end : (livS (QX (⟨#[80, 52, 32, 49, 32, 49, 32]⟩ : ByteArray))).2 = 1 ∧ (XM (QJ 4096) (QK 65536) (QL 65535) (livS (QX (⟨#[80, 52, 32, 49, 32, 49, 32]⟩ : ByteArray))).1 128).2.length = 2 ∧ (XM (QJ 4096) (QK 65536) (QL 65535) (livS (QX (⟨#[80, 52, 32, 49, 32, 49, 32]⟩ : ByteArray))).1 128).1.imgs = 1 := by decide +kernel

end Go.Proofs.YtggamdlpiejbiaaGreat
namespace Go.Proofs.YtggamdlpiejbiaaGreat
open Go.RowKit Go.Shelf


theorem bsOf_bd (s : ByteArray) : ∀ b ∈ QX s, 0 ≤ b ∧ b ≤ 255 := by
  intro b hb
  unfold QX at hb
  obtain ⟨x, _, rfl⟩ := List.mem_map.1 hb
  have := UInt8.toNat_lt x
  omega
theorem liv_n : ∀ k : Fin 8, 0 ≤ (livS ((QX (⟨#[80, 52, 32, 49, 32, 49, 32]⟩ : ByteArray)).take k.val)).2 ∧ (livS ((QX (⟨#[80, 52, 32, 49, 32, 49, 32]⟩ : ByteArray)).take k.val)).2 ≤ 100 := by decide +kernel

theorem llives_spec  : Fn Tryz.prog 20 #[] [] (fun v l => v = .bool true ∧ l = []) := by
 have hsz : ((⟨#[80, 52, 32, 49, 32, 49, 32]⟩ : ByteArray)).size = 7 := rfl
 refine Qp (vs := []) Tryz.func20 rfl Tryz.ntmps20 rfl (Qb (Qa (Qd rfl rfl (WpL.nil (Qb (Qa (Qk rfl rfl (by repeat' constructor) (hdAll_spec) ?_)))))))
 rintro _ _ ⟨rfl, rfl⟩
 simp only [Qw]
 refine Qk rfl rfl (by repeat' constructor) (pnNew_spec 4096 65536 65535) ?_
 rintro _ _ ⟨gP, rfl, rfl⟩
 simp only [Qw]
 refine Qd rfl rfl (WpL.nil (Qb (Qb (Qa (Qc rfl rfl (s_peq rfl Tryz.underlying35 rfl rfl (WpL.nil (ZK rfl rfl (Wp.skip (Qb (Qa (Qd rfl rfl ?_))))))))))))
 refine WpL.nil (Qb (Qa (Qd rfl rfl (WpL.nil (Qb (Qb (Qa (Qd rfl rfl (WpL.nil (Wp.block ?_))))))))))
 refine Wp.loopD (σ := Nat) (fun k => k ≤ 7) [3, 4, 10, 11, 12, 13, 14, 15, 16, 17, 18, 19, 20, 21, 22, 23] (fun k => [(4, .int .i64 (k : Int)), (3, .int .i64 (livS ((QX (⟨#[80, 52, 32, 49, 32, 49, 32]⟩ : ByteArray)).take k)).2)]) (fun k => [psR gP 4096 65536 65535 (livS ((QX (⟨#[80, 52, 32, 49, 32, 49, 32]⟩ : ByteArray)).take k)).1]) (fun k => 7 - k) 0 ?_ (by repeat (first | exact FrLe.nil | refine FrLe.cons rfl ?_)) ?_ ?_
 ·exact Nat.zero_le _
 ·exact Ent.refl _
 ·rintro k hk
  have hI := livS_I (QX (⟨#[80, 52, 32, 49, 32, 49, 32]⟩ : ByteArray)) (bsOf_bd _) k (by rw [Q8]; exact hk)
  have hn := liv_n ⟨k, by omega⟩
  dsimp only at hn
  refine Qb (Qb (Qa (Qc rfl rfl (Qc rfl rfl (Xw rfl Tryz.underlying9 rfl (Xa rfl rfl rfl (WpL.nil (Qi rfl (fun h2 => ?_) (fun h2 => ?_)))))))))
  ·have hlt : k < 7 := by omega
   have hkb : k < (QX (⟨#[80, 52, 32, 49, 32, 49, 32]⟩ : ByteArray)).length := hlt
   have hcb := bsOf_bd _ _ (List.getElem_mem hkb)
   have hsn := livS_snoc ((QX (⟨#[80, 52, 32, 49, 32, 49, 32]⟩ : ByteArray)).take k) (QX (⟨#[80, 52, 32, 49, 32, 49, 32]⟩ : ByteArray))[k]
   rw [← XR _ hkb] at hsn
   have hs1 := congrArg (·.1) hsn
   have hs2 := congrArg (·.2) hsn
   dsimp only at hs1 hs2
   have hn2 := liv_n ⟨k + 1, by omega⟩
   dsimp only at hn2
   refine Wp.skip (Qb (Wp.block ?_))
   refine Qa (Qc rfl rfl (Qc rfl rfl (Qc rfl rfl (Qc rfl rfl (Yh rfl Tryz.underlying9 rfl rfl (by omega) hlt ?_)))))
   have e20 : ((((⟨#[80, 52, 32, 49, 32, 49, 32]⟩ : ByteArray))[((k : Int)).toNat]'hlt).toNat : Int) = (QX (⟨#[80, 52, 32, 49, 32, 49, 32]⟩ : ByteArray))[k] := (bsOf_at hlt).symm
   rw [e20]
   refine Qk rfl rfl (by repeat' constructor) (psPut_rep gP 4096 65536 65535 _ _ (by omega) hI _ (by omega) (by omega)) ?_
   rintro _ _ rfl
   simp only [Qw]
   refine WpL.exs (Take1.there Take1.here) fun pv => ?_
   refine WpL.pur Take1.here fun hv => ?_
   obtain ⟨aE, cE, aR, cR⟩ := pv
   dsimp only at hv
   subst hv
   refine QM rfl rfl (Qx rfl rfl rfl (Qq (by omega) (by omega)) ?_)
   refine Qd rfl rfl (WpL.nil (Qa (Qc rfl rfl (Qx rfl rfl rfl (Qq (by omega) (by omega)) ?_))))
   refine Qd rfl rfl (WpL.nil (Qr (k + 1) ?_ ?_ (by ((repeat (first | exact Top.refl | refine Top.push rfl ?_)); done)) (FrLe.cons rfl (FrLe.cons (by exact congrArg (fun z => some (Value.int .i64 z)) hs2.symm) FrLe.nil)) ?_))
   ·omega
   ·omega
   ·rw [hs1]
    exact Qf (by repeat' constructor)
  ·obtain rfl : k = 7 := by omega
   rw [show (QX (⟨#[80, 52, 32, 49, 32, 49, 32]⟩ : ByteArray)).take 7 = QX (⟨#[80, 52, 32, 49, 32, 49, 32]⟩ : ByteArray) from rfl] at *
   refine QV (Qb (Qa (Qc rfl rfl (Qk rfl rfl (by repeat' constructor) (psPut_rep gP 4096 65536 65535 _ _ (by omega) hI _ (by omega) (by omega)) ?_))))
   rintro _ _ rfl
   simp only [Qw]
   refine WpL.exs (Take1.there Take1.here) fun pv => ?_
   refine WpL.pur Take1.here fun hv => ?_
   obtain ⟨aE, cE, aR, cR⟩ := pv
   dsimp only at hv
   subst hv
   refine Qd rfl rfl (WpL.nil (Qb (Qa (Qc rfl rfl (QH rfl rfl rfl (Qc rfl rfl (QD (dj := 28) rfl (decide_eq_true liv_end.1) ?_)))))))
   refine Qg rfl rfl (Qc rfl rfl (Qg rfl rfl (QM rfl rfl (Qg rfl rfl (QH rfl rfl rfl (Qs rfl rfl rfl (Qc rfl rfl (QD (dj := 33) rfl (decide_eq_true (by have := liv_end.2.1; omega)) ?_))))))))
   refine Qg rfl rfl (Qc rfl rfl (Qg rfl rfl (Qk rfl rfl (by repeat' constructor) (psImages_rep gP 4096 65536 65535 _) ?_)))
   rintro _ _ ⟨rfl, rfl⟩
   simp only [Qw]
   refine Qg rfl rfl (QH rfl rfl rfl (Qs rfl rfl rfl (Qd rfl rfl (WpL.nil (Qh ?_)))))
   apply RetQ.mk
   ·exact (Res.one rfl rfl)
   ·exact ⟨congrArg Value.bool (decide_eq_true liv_end.2.2), rfl⟩
   ·exact Ent.nil _

end Go.Proofs.YtggamdlpiejbiaaGreat
namespace Go.Proofs.YtggamdlpiejbiaaGreat
open Go.RowKit Go.Shelf


/-- A reader that is told bytes: how it stands, and how Zb events it told. -/
def runF (l0 l1 l2 : Int) (bs : List Int) : PS × Int := bs.foldl (fun q c => ((XM l0 l1 l2 q.1 c).1, q.2 + ((XM l0 l1 l2 q.1 c).2.length : Int))) (ps0, 0)
theorem runF_snoc (l0 l1 l2 : Int) (bs : List Int) (c : Int) : runF l0 l1 l2 (bs ++ [c]) = ((XM l0 l1 l2 (runF l0 l1 l2 bs).1 c).1, (runF l0 l1 l2 bs).2 + ((XM l0 l1 l2 (runF l0 l1 l2 bs).1 c).2.length : Int)) := by unfold runF; rw [List.foldl_append]; rfl
theorem runF_go (l0 l1 l2 : Int) : ∀ (bs : List Int) (s : PS) (n : Int), bs.foldl (fun q c => ((XM l0 l1 l2 q.1 c).1, q.2 + ((XM l0 l1 l2 q.1 c).2.length : Int))) (s, n) = ((Xn l0 l1 l2 s bs).1, n + ((Xn l0 l1 l2 s bs).2.length : Int))
  | [], s, n => by simp [Xn]
  | c :: bs, s, n => by
    rw [List.foldl_cons, runF_go l0 l1 l2 bs, Yg]
    simp only [Yj, List.length_append, List.length_map]
    congr 1
    omega
theorem runF_run (l0 l1 l2 : Int) (bs : List Int) : runF l0 l1 l2 bs = ((Xn l0 l1 l2 ps0 bs).1, ((Xn l0 l1 l2 ps0 bs).2.length : Int)) := by unfold runF; rw [runF_go]; simp
theorem runF_app (l0 l1 l2 : Int) (bs : List Int) : ∀ cs : List Int, (runF l0 l1 l2 bs).2 ≤ (runF l0 l1 l2 (bs ++ cs)).2
  | [] => by rw [List.append_nil]; omega
  | c :: cs => by
    have h1 := runF_app l0 l1 l2 (bs ++ [c]) cs
    rw [List.append_assoc, List.singleton_append] at h1
    have h2 := runF_snoc l0 l1 l2 bs c
    have h3 := congrArg (·.2) h2
    dsimp only at h3
    omega
theorem runF_take (l0 l1 l2 : Int) (bs : List Int) (k : Nat) : (runF l0 l1 l2 (bs.take k)).2 ≤ (runF l0 l1 l2 bs).2 := by
  have h := runF_app l0 l1 l2 (bs.take k) (bs.drop k)
  rwa [List.take_append_drop] at h
theorem runF_pos (l0 l1 l2 : Int) (bs : List Int) : 0 ≤ (runF l0 l1 l2 bs).2 := by rw [runF_run]; simp only; omega
theorem runF_I (a b d : Int) : ∀ (bs : List Int) (_ : ∀ x ∈ bs, 0 ≤ x ∧ x ≤ 255) (n : Nat), n ≤ bs.length → psI (QJ a) (QK b) (QL d) n (runF (QJ a) (QK b) (QL d) (bs.take n)).1
  | bs, _, 0, _ => psI0 _ _ _
  | bs, hb, n + 1, hn => by
    have ih := runF_I a b d bs hb n (by omega)
    have hc := hb _ (List.getElem_mem (show n < bs.length by omega))
    rw [XR bs (by omega), runF_snoc]
    exact psPut_I (lim_o a b d) ih hc.1 hc.2
/-- One of a stream's four texts, as it lies in a part. -/
structure TxL where
  (a : Option Addr) (c : Nat) (bs : List Int)
def TxOk (B : HP) (t : TxL) : Prop := RdsL [B] t.a (XE t.bs) ∧ (∀ x ∈ t.bs, 0 ≤ x ∧ x ≤ 255) ∧ t.bs.length ≤ t.c ∧ t.bs.length ≤ 100000000
def txV (t : TxL) : Value := .slice t.a t.bs.length t.c

end Go.Proofs.YtggamdlpiejbiaaGreat
namespace Go.Proofs.YtggamdlpiejbiaaGreat
open Go.RowKit Go.Shelf


theorem txs_take {B : HP} {a : Option Addr} {c : Nat} {bs : List Int} (h : RdsL [B] a (XE bs)) (hb : ∀ x ∈ bs, 0 ≤ x ∧ x ≤ 255) (hc : bs.length ≤ c) (n : Nat) (hn : n ≤ 10000000) : TxOk B ⟨a, c, bs.take n⟩ := by
  refine ⟨?_, fun x hx => hb x (List.mem_of_mem_take hx), ?_, ?_⟩
  · have q := h.take n
    rwa [show (XE bs).take n = XE (bs.take n) by simp [XE, List.map_take]] at q
  · simp only [List.length_take]; omega
  · simp only [List.length_take]; omega
theorem lstream2_spec (A0 : HP) (a0 : Option Addr) (c0 : Nat) (bs : List Int) (hA0 : RdsL [A0] a0 (XE bs)) (hb0 : ∀ x ∈ bs, 0 ≤ x ∧ x ≤ 255) (hc0 : bs.length ≤ c0) (hbl : bs.length ≤ 9223372036854775807) (ga : Option Addr) (gc : Nat) (gs : List GS) (hgl : gs.length ≤ 9223372036854775807) (hG : RdsL [A0] ga (gs.flatMap gC)) (hgs : GsOk A0 gs) (ya : Option Addr) (yc : Nat) (ys : List Int) (hy : RdsL [A0] ya (Q5 ys)) (hyl : ys.length ≤ 9223372036854775807) (p cc q : Int) (hp : -9223372036854775808 ≤ p ∧ p < 9223372036854775808) (hcc : 0 ≤ cc ∧ cc ≤ 255) (hq : -9223372036854775808 ≤ q ∧ q < 9223372036854775808) :
    Fn Tryz.prog 14 #[.slice a0 bs.length c0, .slice ga gs.length gc, .slice ya ys.length yc, .int .i64 p, .int .u8 cc, .int .i64 q] [A0] (fun v l => ∃ (ts : List TxL) (gT : Nat) (B : HP), ts.length = 4 ∧ (∀ t ∈ ts, TxOk B t) ∧ Ent [B] [A0] ∧ v = .slice (some ⟨gT, 0, none⟩) 4 4 ∧ l = [QF gT (ts.map txV) 22, B]) := by
  refine Fn.mono (lstream_spec A0 a0 c0 bs hc0 hbl ga gc gs hgl hG hgs ya yc ys hy hyl p cc q hp hcc hq) ?_
  rintro v l ⟨own1, tn, gT, ao, co, at1, ct, N, ⟨h1, h2, h3, h4⟩, hN, hco, hct, rfl, rfl⟩
  have hm0 : Ent [Zb [own 5 1 ao co own1.length (XE own1), own 5 1 at1 ct own1.length (XE tn), A0]] [A0] := many_mem (by simp)
  have hm1 : RdsL [Zb [own 5 1 ao co own1.length (XE own1), own 5 1 at1 ct own1.length (XE tn), A0]] ao (XE own1) := Q7.ent (many_mem (A := own 5 1 ao co own1.length (XE own1)) (by simp))
  have hm2 : RdsL [Zb [own 5 1 ao co own1.length (XE own1), own 5 1 at1 ct own1.length (XE tn), A0]] at1 (XE tn) := Q7.ent (many_mem (A := own 5 1 at1 ct own1.length (XE tn)) (by simp))
  refine ⟨_, ⟨[⟨a0, c0, bs.take 120⟩, ⟨ao, co, own1⟩, ⟨at1, ct, tn⟩, ⟨ao, co, own1.take N⟩], gT, Zb [own 5 1 ao co own1.length (XE own1), own 5 1 at1 ct own1.length (XE tn), A0], rfl, ?_, hm0, rfl, rfl⟩, ?_⟩
  · intro t ht
    simp only [List.mem_cons, List.not_mem_nil, or_false] at ht
    rcases ht with rfl | rfl | rfl | rfl
    · exact txs_take (hA0.ent hm0) hb0 hc0 120 (by omega)
    · exact ⟨hm1, h2, hco, by simp only; omega⟩
    · exact ⟨hm2, h4, by simp only; omega, by simp only; omega⟩
    · exact txs_take hm1 h2 hco N (by omega)
  · simp only [List.map_cons, List.map_nil, txV]
    rw [show (bs.take 120).length = min bs.length 120 by rw [List.length_take, Nat.min_comm], h3, show (own1.take N).length = N by rw [List.length_take]; omega]
    exact Ent.cons (Ent.many (by rw [List.append_nil]; exact Ent.refl _))

end Go.Proofs.YtggamdlpiejbiaaGreat
namespace Go.Proofs.YtggamdlpiejbiaaGreat
open Go.RowKit Go.Shelf

theorem rds_txs {g T : Nat} {ts : List TxL} : RdsL [QF g (ts.map txV) T] (some ⟨g, 0, none⟩) (ts.map txV) := RdsL.blk (by rw [List.drop_zero, List.take_length])
theorem txv_at (ts : List TxL) {i : Nat} (h : i < ts.length) : (ts.map txV)[i]? = some (.slice ts[i].a ts[i].bs.length ts[i].c) := by rw [List.getElem?_map, List.getElem?_eq_getElem h]; rfl

set_option maxHeartbeats 1000000 in
theorem lOpen_spec (A0 : HP) (a0 : Option Addr) (c0 : Nat) (bs : List Int) (hA0 : RdsL [A0] a0 (XE bs)) (hb0 : ∀ x ∈ bs, 0 ≤ x ∧ x ≤ 255) (hc0 : bs.length ≤ c0) (hbl : bs.length ≤ 9223372036854775807) (ga : Option Addr) (gc : Nat) (gs : List GS) (hgl : gs.length ≤ 9223372036854775807) (hG : RdsL [A0] ga (gs.flatMap gC)) (hgs : GsOk A0 gs) (ya : Option Addr) (yc : Nat) (ys : List Int) (hy : RdsL [A0] ya (Q5 ys)) (hyl : ys.length ≤ 9223372036854775807) (p cc q : Int) (hp : -9223372036854775808 ≤ p ∧ p < 9223372036854775808) (hcc : 0 ≤ cc ∧ cc ≤ 255) (hq : -9223372036854775808 ≤ q ∧ q < 9223372036854775808) (a b d : Int) : Fn Tryz.prog 3 #[.slice a0 bs.length c0, .agg #[.int .i64 a, .int .i64 b, .int .i64 d], .slice ga gs.length gc, .slice ya ys.length yc, .int .i64 p, .int .u8 cc, .int .i64 q] [A0] (fun v l => v = .bool true ∧ l = [A0]) := by
 refine Qp (vs := [.slice a0 bs.length c0, .agg #[.int .i64 a, .int .i64 b, .int .i64 d], .slice ga gs.length gc, .slice ya ys.length yc, .int .i64 p, .int .u8 cc, .int .i64 q]) Tryz.func3 rfl Tryz.ntmps3 rfl (Qb (Qa (Xd rfl rfl rfl ?_)))
 intro gL
 refine Qd rfl rfl (WpL.nil (Qb (Qa (Qc rfl rfl (Qc rfl rfl (Qc rfl rfl (Qc rfl rfl (Qc rfl rfl (Qc rfl rfl (Qk rfl rfl (by repeat' constructor) (lstream2_spec A0 a0 c0 bs hA0 hb0 hc0 hbl ga gc gs hgl hG hgs ya yc ys hy hyl p cc q hp hcc hq) ?_))))))))))
 rintro _ _ ⟨ts, gT, B, hts4, htok, hBA, rfl, rfl⟩
 simp only [Qw]
 refine Qd rfl rfl (WpL.nil (Qb (Qb (Qa (Qd rfl rfl (WpL.nil (Wp.block ?_)))))))
 refine Wp.loopD (σ := Nat) (fun i => i ≤ 4) [14, 16, 17, 18, 19, 20, 21, 22, 30, 31, 32, 33, 34, 35, 36, 37, 38, 39, 40, 41, 42, 43, 44, 45, 46, 47, 48, 49, 50, 51, 52, 53, 54, 55, 56, 57, 58, 59, 60, 61, 62, 63, 64, 65, 66, 67, 68, 69, 70, 71, 72, 73, 74, 75, 76, 77, 78, 79, 80, 81, 82, 83, 84, 85, 86, 87, 88, 89, 90, 91, 92, 93, 94, 95] (fun i => [(16, .int .i64 (i : Int))]) (fun i => [QF gT (ts.map txV) 22, B, QF gL [.int .i64 a, .int .i64 b, .int .i64 d] 24]) (fun i => 4 - i) 0 ?_ (by repeat (first | exact FrLe.nil | refine FrLe.cons rfl ?_)) ?_ ?_
 ·exact Nat.zero_le _
 ·exact Ent.refl _
 ·rintro i hi
  refine Qb (Qb (Qa (Qc rfl rfl (Qc rfl rfl (QM rfl rfl (Xa rfl rfl rfl (WpL.nil (Qi rfl (fun h1 => ?_) (fun h1 => ?_)))))))))
  ·have hit : i < ts.length := by omega
   obtain ⟨htA, htb, htc, htl⟩ := htok _ (List.getElem_mem hit)
   refine Wp.skip (Qb (Wp.block ?_))
   refine Qb ?_
   apply Yi (fB := []) mixed 6 [(5, false), (0, true)] rfl rfl (by kernel_rfl)
   apply Q4 [⟨0, 36, _, [], false⟩, ⟨1, 37, _, [], false⟩, ⟨2, 38, _, [0, 1], false⟩, ⟨3, 39, _, [2], false⟩, ⟨4, 40, _, [], false⟩] [] [0, 1, 2, 3, 4] [17] (.inr rfl) rfl rfl rfl (by kernel_rfl) rfl rfl rfl
   ·refine AllF.cons rfl rfl rfl rfl ?_ ?_
    ·exact Qc rfl rfl (Qn rfl)
    refine AllF.cons rfl rfl rfl rfl ?_ ?_
    ·exact Qc rfl rfl (Qn rfl)
    refine AllF.cons rfl rfl rfl rfl ?_ ?_
    ·refine Xo i rfl rfl rfl (rds_txs (ts := ts)) (by exact Qf (by repeat' constructor)) (by omega) (by omega) (by rw [List.length_map]; exact hit) ?_
     exact Qn rfl
    refine AllF.cons rfl rfl rfl rfl ?_ ?_
    ·refine Xp rfl rfl (rds_txs (ts := ts)) (by exact Qf (by repeat' constructor)) (txv_at ts hit) ?_
     exact Qn rfl
    refine AllF.cons rfl rfl rfl rfl ?_ ?_
    ·refine Qy (vs := [_, _, _]) rfl rfl rfl (by rfl) ?_
     exact Qn rfl
    exact AllF.nil
   ·refine Qk rfl rfl (by repeat' constructor) (rStream_spec B ts[i].a ts[i].c ts[i].bs htA htb htc htl a b d false) ?_
    rintro _ _ ⟨aL, cL, aI, cI, s1, es, A1, hall, hA1, rfl, hel, rfl⟩
    simp only [Qw]
    have hps : runF (QJ a) (QK b) (QL d) ts[i].bs = (s1, (es.length : Int)) := by rw [runF_run]; have q := hall; unfold psAll YV at q; rw [if_neg (by decide)] at q; rw [← q]
    refine WpL.nil ⟨rfl, rfl, ?_⟩
    apply YI [] [] [] [] (.inr rfl) rfl rfl rfl (by kernel_rfl) rfl rfl rfl rfl
    ·exact AllF.nil
    ·intro gS
     refine QE rfl rfl rfl (by rfl) rfl ?_
     refine WpL.nil ⟨rfl, rfl, ?_⟩
     apply GoR.nil [] (.inr rfl) rfl rfl
     ·exact AllF.nil
     ·refine Qb (Qa ?_)
      refine Qy (vs := [_, _, _]) rfl rfl rfl (by rfl) ?_
      refine Qk rfl rfl (by repeat' constructor) (pnNew_spec a b d) ?_
      rintro _ _ ⟨gP, rfl, rfl⟩
      simp only [Qw]
      refine Qd rfl rfl (WpL.nil (Qb (Qb (Qa (Qc rfl rfl (s_peq rfl Tryz.underlying35 rfl rfl (WpL.nil (ZK rfl rfl (Wp.skip (Qb (Qa (Qd rfl rfl ?_))))))))))))
      refine WpL.nil (Qb (Qb (Qa (Qd rfl rfl (WpL.nil (Wp.block ?_))))))
      refine Wp.loopD (σ := Nat) (fun k => k ≤ ts[i].bs.length) [19, 20, 46, 47, 48, 49, 50, 51, 52, 53, 54, 55, 56, 57, 58, 59, 60, 61, 62, 63, 64, 65, 66] (fun k => [(20, .int .i64 (k : Int)), (19, .int .i64 (runF (QJ a) (QK b) (QL d) (ts[i].bs.take k)).2)]) (fun k => [psR gP a b d (runF (QJ a) (QK b) (QL d) (ts[i].bs.take k)).1, QF gS [.slice aL es.length cL, .slice aI (Yd es).length cI, .int .i64 s1.e, .int .i64 A1, .int .i64 s1.told] 33, esR aL cL es, imR aI cI (Yd es), B, QF gT (ts.map txV) 22, QF gL [.int .i64 a, .int .i64 b, .int .i64 d] 24]) (fun k => ts[i].bs.length - k) 0 ?_ (by repeat (first | exact FrLe.nil | refine FrLe.cons rfl ?_)) ?_ ?_
      ·exact Nat.zero_le _
      ·exact Ent.refl _
      ·rintro k hk
       have hI := runF_I a b d ts[i].bs htb k hk
       have hn0 := runF_pos (QJ a) (QK b) (QL d) (ts[i].bs.take k)
       have hn1 := runF_take (QJ a) (QK b) (QL d) ts[i].bs k
       rw [hps] at hn1
       dsimp only at hn1
       refine Qb (Qb (Qa (Qc rfl rfl (Qc rfl rfl (Qc rfl rfl (Xo i rfl rfl rfl (rds_txs (ts := ts)) (by exact Qf (by repeat' constructor)) (by omega) (by omega) (by rw [List.length_map]; exact hit) ?_))))))
       refine Xp rfl rfl (rds_txs (ts := ts)) (by exact Qf (by repeat' constructor)) (txv_at ts hit) ?_
       refine QM rfl rfl (Xa rfl rfl rfl (WpL.nil (Qi rfl (fun h4 => ?_) (fun h4 => ?_))))
       ·have hlt : k < ts[i].bs.length := by omega
        have hcb := htb _ (List.getElem_mem hlt)
        have hsn := runF_snoc (QJ a) (QK b) (QL d) (ts[i].bs.take k) ts[i].bs[k]
        rw [← XR _ hlt] at hsn
        have hs1 := congrArg (·.1) hsn
        have hs2 := congrArg (·.2) hsn
        dsimp only at hs1 hs2
        have hn2 := runF_take (QJ a) (QK b) (QL d) ts[i].bs (k + 1)
        rw [hps] at hn2
        dsimp only at hn2
        refine Wp.skip (Qb (Wp.block ?_))
        refine Qa (Qc rfl rfl (Qc rfl rfl (Qc rfl rfl (Qc rfl rfl (Xo i rfl rfl rfl (rds_txs (ts := ts)) (by exact Qf (by repeat' constructor)) (by omega) (by omega) (by rw [List.length_map]; exact hit) ?_)))))
        refine Xp rfl rfl (rds_txs (ts := ts)) (by exact Qf (by repeat' constructor)) (txv_at ts hit) ?_
        refine Qc rfl rfl (Xo k rfl rfl rfl htA (by exact Qf (by repeat' constructor)) rfl (by omega) (by rw [Xv]; exact hlt) ?_)
        refine Xp rfl rfl htA (by exact Qf (by repeat' constructor)) (Zc ts[i].bs hlt) ?_
        refine Qk rfl rfl (by repeat' constructor) (psPut_rep gP a b d _ _ (by omega) hI _ (by omega) (by omega)) ?_
        rintro _ _ rfl
        simp only [Qw]
        refine WpL.exs (Take1.there Take1.here) fun pv => ?_
        refine WpL.pur Take1.here fun hv => ?_
        obtain ⟨aE, cE, aR, cR⟩ := pv
        dsimp only at hv
        subst hv
        refine QM rfl rfl (Qx rfl rfl rfl (Qq (by omega) (by omega)) ?_)
        refine Qd rfl rfl (WpL.nil (Qa (Qc rfl rfl (Qx rfl rfl rfl (Qq (by omega) (by omega)) ?_))))
        refine Qd rfl rfl (WpL.nil (Qr (k + 1) ?_ ?_ (by ((repeat (first | exact Top.refl | refine Top.push rfl ?_)); done)) (FrLe.cons rfl (FrLe.cons (by exact congrArg (fun z => some (Value.int .i64 z)) hs2.symm) FrLe.nil)) ?_))
        ·omega
        ·omega
        ·rw [hs1]
         exact Qf (by repeat' constructor)
       ·obtain rfl : k = ts[i].bs.length := by omega
        rw [List.take_length, hps]
        dsimp only
        refine QV (Qb (Qa (Qc rfl rfl (Qk rfl rfl (by repeat' constructor) (psError_rep gP a b d _) ?_))))
        rintro _ _ ⟨rfl, rfl⟩
        simp only [Qw]
        refine Qc rfl rfl (QO rfl rfl rfl (QO rfl rfl rfl (Qd rfl rfl (Qd rfl rfl (WpL.nil (Qb ?_))))))
        apply Q3 mixed [⟨72, _, []⟩, ⟨73, _, []⟩, ⟨74, _, [1]⟩, ⟨75, _, [2]⟩, ⟨76, _, [0, 3]⟩, ⟨77, _, [4]⟩, ⟨78, _, [5]⟩, ⟨79, _, [5]⟩, ⟨80, _, [7, 5]⟩, ⟨81, _, [6, 8, 5]⟩, ⟨82, _, [5, 9]⟩, ⟨83, _, [10, 5]⟩, ⟨84, _, [11]⟩, ⟨85, _, [11]⟩, ⟨86, _, [13, 11]⟩, ⟨87, _, [12, 14, 11]⟩, ⟨88, _, [11, 15]⟩, ⟨89, _, [16, 11]⟩, ⟨90, _, [17]⟩, ⟨91, _, [18, 17]⟩, ⟨92, _, [17]⟩, ⟨93, _, [20, 17]⟩, ⟨94, _, [19, 21, 17]⟩, ⟨95, _, [17, 22]⟩] rfl
        ·refine AllObs.mk ?_ ?_
         ·exact Qc rfl rfl (Qn rfl)
         refine AllObs.mk ?_ ?_
         ·exact Qj (o2 := 0) rfl rfl rfl (Qn rfl)
         refine AllObs.mk ?_ ?_
         ·refine Qo rfl rfl (by rfl) ?_
          exact Qn rfl
         refine AllObs.mk ?_ ?_
         ·exact QM rfl rfl (WpL.nil ⟨rfl, rfl, rfl, by exact Ent.refl _⟩)
         refine AllObs.mk ?_ ?_
         ·exact Xr rfl rfl rfl (Qn rfl)
         refine AllObs.mk ?_ ?_
         ·exact Qc rfl rfl (Qn rfl)
         refine AllObs.mk ?_ ?_
         ·refine Qz (dj := 77) rfl (decide_eq_false (by omega)) ?_
          exact Qg rfl rfl (Qc rfl rfl (Qn rfl))
         refine AllObs.mk ?_ ?_
         ·refine Qz (dj := 77) rfl (decide_eq_false (by omega)) ?_
          exact Qg rfl rfl (Qj (o2 := 2) rfl rfl rfl (Qn rfl))
         refine AllObs.mk ?_ ?_
         ·refine Qz (dj := 77) rfl (decide_eq_false (by omega)) ?_
          refine Qg rfl rfl (Qo rfl rfl (by rfl) ?_)
          exact Qn rfl
         refine AllObs.mk ?_ ?_
         ·refine Qz (dj := 77) rfl (decide_eq_false (by omega)) ?_
          exact Qg rfl rfl (Xr rfl rfl rfl (Qn rfl))
         refine AllObs.mk ?_ ?_
         ·refine Qz (dj := 77) rfl (decide_eq_false (by omega)) ?_
          exact Qv rfl rfl rfl (Qn rfl)
         refine AllObs.mk ?_ ?_
         ·exact Qc rfl rfl (Qn rfl)
         refine AllObs.mk ?_ ?_
         ·refine Qz (dj := 83) rfl (decide_eq_false (fun hx => hx (by by_cases h : s1.e = 0 <;> simp [h]))) ?_
          exact Qg rfl rfl (Qc rfl rfl (Qn rfl))
         refine AllObs.mk ?_ ?_
         ·refine Qz (dj := 83) rfl (decide_eq_false (fun hx => hx (by by_cases h : s1.e = 0 <;> simp [h]))) ?_
          exact Qg rfl rfl (Qj (o2 := 3) rfl rfl rfl (Qn rfl))
         refine AllObs.mk ?_ ?_
         ·refine Qz (dj := 83) rfl (decide_eq_false (fun hx => hx (by by_cases h : s1.e = 0 <;> simp [h]))) ?_
          refine Qg rfl rfl (Qo rfl rfl (by rfl) ?_)
          exact Qn rfl
         refine AllObs.mk ?_ ?_
         ·refine Qz (dj := 83) rfl (decide_eq_false (fun hx => hx (by by_cases h : s1.e = 0 <;> simp [h]))) ?_
          exact Qg rfl rfl (Xr rfl rfl rfl (Qn rfl))
         refine AllObs.mk ?_ ?_
         ·refine Qz (dj := 83) rfl (decide_eq_false (fun hx => hx (by by_cases h : s1.e = 0 <;> simp [h]))) ?_
          exact Qv rfl rfl rfl (Qn rfl)
         refine AllObs.mk ?_ ?_
         ·exact Qc rfl rfl (Qn rfl)
         refine AllObs.mk ?_ ?_
         ·refine Qz (dj := 89) rfl (decide_eq_false (fun hx => hx hA1.symm)) ?_
          exact Qg rfl rfl (Qc rfl rfl (Qn rfl))
         refine AllObs.mk ?_ ?_
         ·refine Qz (dj := 89) rfl (decide_eq_false (fun hx => hx hA1.symm)) ?_
          refine Qg rfl rfl (Qk rfl rfl (by repeat' constructor) (psTold_rep gP a b d _) ?_)
          rintro _ _ ⟨rfl, rfl⟩
          simp only [Qw]
          exact WpL.nil ⟨rfl, rfl, rfl, by exact Ent.refl _⟩
         refine AllObs.mk ?_ ?_
         ·refine Qz (dj := 89) rfl (decide_eq_false (fun hx => hx hA1.symm)) ?_
          exact Qg rfl rfl (Qj (o2 := 4) rfl rfl rfl (Qn rfl))
         refine AllObs.mk ?_ ?_
         ·refine Qz (dj := 89) rfl (decide_eq_false (fun hx => hx hA1.symm)) ?_
          refine Qg rfl rfl (Qo rfl rfl (by rfl) ?_)
          exact Qn rfl
         refine AllObs.mk ?_ ?_
         ·refine Qz (dj := 89) rfl (decide_eq_false (fun hx => hx hA1.symm)) ?_
          exact Qg rfl rfl (Xr rfl rfl rfl (Qn rfl))
         refine AllObs.mk ?_ ?_
         ·refine Qz (dj := 89) rfl (decide_eq_false (fun hx => hx hA1.symm)) ?_
          exact Qv rfl rfl rfl (Qn rfl)
         exact AllObs.nil
        ·refine QB rfl (by omega) ?_
         refine Wp.skip (Qa (Qc rfl rfl (Qx rfl rfl rfl (Qq (by omega) (by omega)) ?_)))
         refine Qd rfl rfl (WpL.nil (Qr (i + 1) ?_ ?_ (by ((repeat (first | exact Top.refl | refine Top.push rfl ?_)); done)) (by repeat (first | exact FrLe.nil | refine FrLe.cons rfl ?_)) ?_))
         ·omega
         ·omega
         ·exact Qf (by repeat' constructor)
  ·refine QV (Qb (Qa (Qk rfl rfl (by repeat' constructor) (llives_spec) ?_)))
   rintro _ _ ⟨rfl, rfl⟩
   simp only [Qw]
   refine Qd rfl rfl (WpL.nil (Qh ?_))
   apply RetQ.mk
   ·exact (Res.one rfl rfl)
   ·exact ⟨rfl, rfl⟩
   ·exact Ent.trans (Qf (pre := [B]) (by repeat' constructor)) hBA

end Go.Proofs.YtggamdlpiejbiaaGreat
