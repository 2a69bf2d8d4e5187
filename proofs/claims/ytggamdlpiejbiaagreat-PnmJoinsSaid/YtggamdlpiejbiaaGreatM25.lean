/- Walks and plain laws, a part of the proof of PnmJoins: every input that the law's guards let in, no condition beside. -/
import Derived.Test.YtggamdlpiejbiaaGreatM24
namespace Go.Proofs.YtggamdlpiejbiaaGreat
open Go.RowKit Go.Shelf


theorem tk_may {C M W H k : Int} {px : List Int} (h : k ∈ QJ C M ∧ Yq C M W H px) : Xv k W H M ∧ (∀ p ∈ px, Yp p (QW k) M) ∧ (px.length : Int) = W * H ∧ px.length ≤ 16777216 := by
  obtain ⟨hf, hk6, hc, h1⟩ := kinds_mem h.1
  obtain ⟨⟨hw, hh, hs⟩, hl, hp⟩ := h.2
  have hm := hf.2
  exact ⟨⟨hk6, hw, hh, hm, h1⟩, fun p hpp => by rw [hc]; exact hp p hpp, hl, by omega⟩
theorem iHead_alt (As : List HP) (C M W H : Int) (a : Option Addr) (c : Nat) (px : List Int) (hA : RdsL As a (Xp px)) (hb : ∀ p ∈ px, 0 ≤ p ∧ p < 18446744073709551616) (hl : px.length ≤ 9223372036854775807) (k : Int) : Fn Tryz.prog 49 #[.agg #[.int .i64 C, .int .i64 M, .int .i64 W, .int .i64 H, .slice a px.length c], .int .i64 k] As (fun v l => ((k ∈ QJ C M ∧ Yq C M W H px) ∧ v = .tuple #[.agg #[.int .i64 k, .int .i64 W, .int .i64 H, .int .i64 M], .int .i64 0] ∧ l = As) ∨ (¬ (k ∈ QJ C M ∧ Yq C M W H px) ∧ v = .tuple #[.agg #[.int .i64 0, .int .i64 0, .int .i64 0, .int .i64 0], .int .i64 1] ∧ l = As)) := by
  refine (iHead_spec As C M W H a c px hA hb hl k).mono ?_
  rintro v l ⟨⟨h, rfl⟩ | ⟨h, rfl⟩, rfl⟩
  · exact ⟨_, .inl ⟨h, rfl, rfl⟩, Ent.refl _⟩
  · exact ⟨_, .inr ⟨h, rfl, rfl⟩, Ent.refl _⟩

theorem iWrP_spec (A0 : HP) (gI gH : Nat) (C M k : Int) (Wn Hn : Nat) (a : Option Addr) (c : Nat) (px : List Int) (hA : RdsL [A0] a (Xp px)) (hb : ∀ p ∈ px, 0 ≤ p ∧ p < 18446744073709551616) (hcap : px.length ≤ c) (hT : k ∈ QJ C M ∧ Yq C M (Wn : Int) (Hn : Int) px) (hk : k < 4) : Fn Tryz.prog 88 #[.pointer (some ⟨gI, 0, none⟩), .pointer (some ⟨gH, 0, none⟩)] [QA gI [.int .i64 C, .int .i64 M, .int .i64 (Wn : Int), .int .i64 (Hn : Int), .slice a px.length c] 79, QA gH [.int .i64 k, .int .i64 (Wn : Int), .int .i64 (Hn : Int), .int .i64 M] 98, A0] (fun v l => ∃ gB cB, v = .slice (some ⟨gB, 0, none⟩) (wrL k (Wn : Int) 0 px).length cB ∧ l = [rdo gB (Xr (wrL k (Wn : Int) 0 px)), QA gI [.int .i64 C, .int .i64 M, .int .i64 (Wn : Int), .int .i64 (Hn : Int), .slice a px.length c] 79, QA gH [.int .i64 k, .int .i64 (Wn : Int), .int .i64 (Hn : Int), .int .i64 M] 98, A0]) := by
 obtain ⟨hMay, hfit, hpl, hp16⟩ := tk_may hT
 have hM2 := hMay
 unfold Xv at hM2
 refine Qk (vs := [.pointer (some ⟨gI, 0, none⟩), .pointer (some ⟨gH, 0, none⟩)]) Tryz.func88 rfl Tryz.ntmps88 rfl ?_
 refine Qb (Qa (Qe rfl rfl (WpL.nil (Qb (Qa (Qj (o2 := 2) rfl rfl rfl (Qj (o2 := 4) rfl rfl rfl (Qo rfl rfl (by rfl) ?_))))))))
 refine QI (vs := [_, _, _, _]) rfl rfl rfl (by rfl) ?_
 refine Qh rfl rfl (by repeat' constructor) (Write_ok A0 a c px hA hb (by omega) hcap k M Wn Hn ⟨hMay, by omega⟩) ?_
 rintro _ _ ⟨s8, e8, rfl, hs8, rfl⟩
 simp only [Qr]
 obtain ⟨_, rfl, hs8, hz8⟩ : WrP k (Wn : Int) (Hn : Int) M px ∧ e8 = 0 ∧ Xh s8 = (wrL k (Wn : Int) 0 px) ∧ s8.size ≤ px.length * 20 := by
  rcases hs8 with q | q
  ·exact q
  ·exact absurd (⟨⟨hMay, by omega⟩, hpl, hfit⟩ : WrP k (Wn : Int) (Hn : Int) M px) q.1
 refine Qc rfl rfl (QH rfl rfl rfl (QH rfl rfl rfl (Qe rfl rfl (Qe rfl rfl (WpL.nil (Qb (Qa (Qc rfl rfl (s_t2b rfl Tryz.underlying9 Tryz.underlying22 Tryz.underlying5 rfl ?_)))))))))
 intro gB cB
 rw [hs8]
 refine Qe rfl rfl (WpL.nil (Qi ?_))
 apply RetQ.mk
 ·exact (Res.one rfl rfl)
 ·exact ⟨gB, cB, rfl, rfl⟩
 ·exact Take.ent' (by repeat' constructor)

theorem iWrR_spec (A0 : HP) (gI gH : Nat) (C M k : Int) (Wn Hn : Nat) (a : Option Addr) (c : Nat) (px : List Int) (hA : RdsL [A0] a (Xp px)) (hb : ∀ p ∈ px, 0 ≤ p ∧ p < 18446744073709551616) (hcap : px.length ≤ c) (hT : k ∈ QJ C M ∧ Yq C M (Wn : Int) (Hn : Int) px) (hk : 4 ≤ k) : Fn Tryz.prog 90 #[.pointer (some ⟨gI, 0, none⟩), .pointer (some ⟨gH, 0, none⟩)] [QA gI [.int .i64 C, .int .i64 M, .int .i64 (Wn : Int), .int .i64 (Hn : Int), .slice a px.length c] 79, QA gH [.int .i64 k, .int .i64 (Wn : Int), .int .i64 (Hn : Int), .int .i64 M] 98, A0] (fun v l => ∃ a9 c9, v = .slice a9 (Xg k Wn (Qg M) px Hn).length c9 ∧ (Xg k Wn (Qg M) px Hn).length ≤ 2000000000 ∧ l = [QG 5 1 a9 c9 (Xg k Wn (Qg M) px Hn).length (Xr (Xg k Wn (Qg M) px Hn)), QA gI [.int .i64 C, .int .i64 M, .int .i64 (Wn : Int), .int .i64 (Hn : Int), .slice a px.length c] 79, QA gH [.int .i64 k, .int .i64 (Wn : Int), .int .i64 (Hn : Int), .int .i64 M] 98, A0]) := by
 obtain ⟨hMay, hfit, hpl, hp16⟩ := tk_may hT
 have hM2 := hMay
 unfold Xv at hM2
 have hpn : px.length = Wn * Hn := by exact_mod_cast hpl
 have hwl := Yc (K := k) (w := Qg M) (Q2 M) hpn (fun p hp => by have := Vc (hfit p hp); omega) Hn (Nat.le_refl _)
 have hsb := XU (K := k) (W := Wn) (Q2 M) (by omega) (by omega)
 have hwl2 : (Xg k Wn (Qg M) px Hn).length ≤ 65536 * 24576 := by rw [hwl]; (rw [Nat.mul_comm]; exact Nat.mul_le_mul (by omega) hsb.2)
 refine Qk (vs := [.pointer (some ⟨gI, 0, none⟩), .pointer (some ⟨gH, 0, none⟩)]) Tryz.func90 rfl Tryz.ntmps90 rfl ?_
 refine Qb (Qa (Qe rfl rfl (WpL.nil (Qb (Qa (Qj (o2 := 2) rfl rfl rfl (Qj (o2 := 4) rfl rfl rfl (Qo rfl rfl (by rfl) ?_))))))))
 refine QI (vs := [_, _, _, _]) rfl rfl rfl (by rfl) ?_
 refine Qh rfl rfl (by repeat' constructor) (RawWrite_spec A0 a c px hA hb hcap k Wn Hn M ⟨hMay, by omega⟩ hpn hfit) ?_
 rintro _ _ ⟨a9, c9, rfl, hc9, rfl⟩
 simp only [Qr]
 refine Qc rfl rfl (QH rfl rfl rfl (QH rfl rfl rfl (Qe rfl rfl (Qe rfl rfl (WpL.nil (Qb (Qa (Qc rfl rfl (Qe rfl rfl (WpL.nil (Qi ?_)))))))))))
 apply RetQ.mk
 ·exact (Res.one rfl rfl)
 ·exact ⟨a9, c9, rfl, by omega, rfl⟩
 ·exact Take.ent' (by repeat' constructor)

end Go.Proofs.YtggamdlpiejbiaaGreat
namespace Go.Proofs.YtggamdlpiejbiaaGreat
open Go.RowKit Go.Shelf


theorem hdW_lenH {K W H M : Int} (h : Xv K W H M) : (hdW K W H M).length ≤ 400000 := by
  unfold Xv at h
  have h1 := Yl K.toNat
  have h2 := Yl W.toNat
  have h3 := Yl H.toNat
  have h4 := Yl M.toNat
  unfold hdW
  simp only [List.length_append, List.length_cons, List.length_nil]
  split <;> simp only [List.length_append, List.length_cons, List.length_nil] <;> omega
theorem wrL_lenB {C M W H k : Int} {px : List Int} (h : k ∈ QJ C M ∧ Yq C M W H px) (_hk : k < 4) : (wrL k W 0 px).length ≤ 1000000000 := by
  have h1 := (tk_may h).2.2.2
  have h2 := Vl (K := k) (W := W) px 0
  omega

end Go.Proofs.YtggamdlpiejbiaaGreat
namespace Go.Proofs.YtggamdlpiejbiaaGreat
open Go.RowKit Go.Shelf


theorem WpL.cvLe {P : Program} {n : Cx} {D : List Deferred} {ops : Array Oper} {rest : List Oper} {Q : Post} {fr : Fr} {l : List HP} {e g c : Nat} {xs : List Value} {F : List HP} (ht : Take1 l (cvR e g c xs) F) (k : xs.length ≤ c → WpL P n D ops rest Q fr l) : WpL P n D ops rest Q fr l := fun A w U hh hs => by
  refine k ?_ A w U hh hs
  obtain ⟨S, hp, _⟩ := ht.ent w U hs
  obtain ⟨_, _, _, _, h, _⟩ := hp
  exact h

theorem rWrite10c_spec (A0 : HP) (m : Img) (a : Option Addr) (c : Nat) (hA : RdsL [A0] a (Xp m.px)) (most : Int) (hmo : most ≤ 100) (hg : YG most m) (k : Int) (hk : k ∈ QJ m.c m.m) : Fn Tryz.prog 34 #[.agg #[.int .i64 m.c, .int .i64 m.m, .int .i64 m.w, .int .i64 m.h, .slice a m.px.length c], .int .i64 k] [A0] (fun v l => ∃ B b e, RdsL [B] b (Xr (YY m k)) ∧ (YY m k).length ≤ e ∧ v = .tuple #[.slice b (YY m k).length e, .int .i64 0] ∧ l = [B, A0]) := by
 obtain ⟨hMay, hfit, hfm⟩ := good_fits hmo hg hk
 obtain ⟨hz1, hz2⟩ := good_sz hmo hg
 have hb : ∀ p ∈ m.px, 0 ≤ p ∧ p < 18446744073709551616 := fun p hp => (hg.2.2.2.2.2 p hp).2
 have hM2 := hMay
 unfold Xv at hM2
 obtain ⟨_, hg2, hgw, hgh, hgl, _⟩ := id hg
 have hWn : ((m.w.toNat : Nat) : Int) = m.w := by omega
 have hHn : ((m.h.toNat : Nat) : Int) = m.h := by omega
 have hz6 := hdW_len (K := k) (W := m.w) (H := m.h) (M := m.m) (by omega) (by omega) (by omega) (by omega)
 refine Qk (vs := [.agg #[.int .i64 m.c, .int .i64 m.m, .int .i64 m.w, .int .i64 m.h, .slice a m.px.length c], .int .i64 k]) Tryz.func34 rfl Tryz.ntmps34 rfl (Qb (Qa (Q9 rfl rfl rfl ?_)))
 intro gI
 refine Qe rfl rfl (Qe rfl rfl (WpL.nil (Qb (Qa ?_))))
 refine QI (vs := [_, _, _, _, _]) rfl rfl rfl (by rfl) ?_
 refine Qc rfl rfl (Qh rfl rfl (by repeat' constructor) (rTells_spec [A0] m.c m.m m.w m.h a c m.px hA hb (by omega) k) ?_)
 rintro _ _ ⟨rfl, rfl⟩
 simp only [Qr]
 refine Qe rfl rfl (WpL.nil (Qb (Qb (Qa (Qc rfl rfl (XN rfl rfl (WpL.nil (Ql rfl (fun h0 => ?_) (fun h0 => ?_)))))))))
 ·exfalso; exact absurd ⟨hk, hfm⟩ h0
 ·refine Wp.skip (Qb (Qa (Qc rfl rfl (Qj (o2 := 2) rfl rfl rfl (Qj (o2 := 2) rfl rfl rfl (Qo rfl rfl (by rfl) ?_))))))
  refine Qj (o2 := 2) rfl rfl rfl (Qj (o2 := 3) rfl rfl rfl (Qo rfl rfl (by rfl) ?_))
  refine Qj (o2 := 0) rfl rfl rfl (Qj (o2 := 1) rfl rfl rfl (Qo rfl rfl (by rfl) ?_))
  refine YI rfl rfl ?_
  refine YE rfl ?_
  intro gH
  refine XL rfl rfl rfl (by rfl) rfl ?_
  refine WpL.nil (Qb (Qa ?_))
  refine QI (vs := [_, _, _, _]) rfl rfl rfl (by rfl) ?_
  refine Qh rfl rfl (by repeat' constructor) (rWrite06_spec _ _ _ _ hMay) ?_
  rintro _ _ ⟨s6, hs6, rfl, rfl⟩
  simp only [Qr]
  have hs6z : s6.size ≤ 100000 := by rw [← XS, hs6]; exact hz6
  refine Qc rfl rfl (QH rfl rfl rfl (QH rfl rfl rfl (Qe rfl rfl (Qe rfl rfl (WpL.nil (Qb (Qb (Qa (Qc rfl rfl (Q7 rfl rfl rfl (WpL.nil (Ql rfl (fun h1 => ?_) (fun h1 => ?_)))))))))))))
  ·refine Qb (Qa (Qj (o2 := 2) rfl rfl rfl (Qj (o2 := 4) rfl rfl rfl (Qo rfl rfl (by rfl) ?_))))
   refine QI (vs := [_, _, _, _]) rfl rfl rfl (by rfl) ?_
   refine Qh rfl rfl (by repeat' constructor) (rWrite_spec A0 a c m.px hA hb (by omega) k m.w m.h m.m) ?_
   rintro _ _ ⟨s8, e8, rfl, hs8, rfl⟩
   simp only [Qr]
   obtain ⟨_, rfl, hs8, hz8⟩ : WrP k m.w m.h m.m m.px ∧ e8 = 0 ∧ Xh s8 = wrL k m.w 0 m.px ∧ s8.size ≤ m.px.length * 300000 := by
    rcases hs8 with q | q
    ·exact q
    ·exact absurd (⟨⟨hMay, by omega⟩, hgl, hfit⟩ : WrP k m.w m.h m.m m.px) q.1
   refine Qc rfl rfl (QH rfl rfl rfl (QH rfl rfl rfl (Qe rfl rfl (Qe rfl rfl (WpL.nil (Qb (Qa (Qc rfl rfl (Qc rfl rfl (Yo rfl rfl rfl (by omega) ?_))))))))))
   refine s_t2bc rfl Tryz.underlying9 Tryz.underlying22 Tryz.underlying5 rfl ?_
   intro gB cB
   refine WpL.cvLe (by repeat' constructor) (fun hcB => ?_)
   rw [Xa] at hcB
   rw [show Xh (s6 ++ s8) = YY m k by rw [X0, hs6, hs8, YY, if_pos (by omega)]] at hcB ⊢
   refine Qe rfl rfl (Qe rfl rfl (WpL.nil (Qi ?_)))
   apply RetQ.mk
   ·exact (QB rfl rfl rfl)
   ·exact ⟨cvR 5 gB cB _, _, cB, RdsL.cvR, hcB, rfl, rfl⟩
   ·exact Take.ent' (by repeat' constructor)
  ·have hpl : m.px.length = m.w.toNat * m.h.toNat := by
    have q : ((m.w.toNat * m.h.toNat : Nat) : Int) = m.w * m.h := by rw [Int.natCast_mul, hWn, hHn]
    omega
   have hw9 := rWrite09_spec A0 a c m.px hA hb k m.w.toNat m.h.toNat m.m (by rw [hWn, hHn]; exact ⟨hMay, by omega⟩) hpl hfit (by omega)
   rw [hWn, hHn] at hw9
   have hwl := Yc (K := k) (w := Qg m.m) (Q2 m.m) hpl (fun p hp => by have := Vc (hfit p hp); omega) m.h.toNat (Nat.le_refl _)
   have hsb := XU (K := k) (W := m.w.toNat) (Q2 m.m) (by omega) (by omega)
   have hwl2 : (Xg k m.w.toNat (Qg m.m) m.px m.h.toNat).length ≤ 24576 * 100 := by rw [hwl]; exact Nat.mul_le_mul hsb.2 (by omega)
   refine Wp.skip (Qb (Qa (Qj (o2 := 2) rfl rfl rfl (Qj (o2 := 4) rfl rfl rfl (Qo rfl rfl (by rfl) ?_)))))
   refine QI (vs := [_, _, _, _]) rfl rfl rfl (by rfl) ?_
   refine Qh rfl rfl (by repeat' constructor) (hw9) ?_
   rintro _ _ ⟨a9, c9, rfl, rfl⟩
   simp only [Qr]
   refine Qc rfl rfl (QH rfl rfl rfl (QH rfl rfl rfl (Qe rfl rfl (Qe rfl rfl (WpL.nil (Qb (Qa (Qe rfl rfl (WpL.nil (Qb (Qa (Qc rfl rfl ?_))))))))))))
   refine Qc rfl rfl (s_t2bc rfl Tryz.underlying9 Tryz.underlying22 Tryz.underlying5 rfl ?_)
   intro gB cB
   refine WpL.cvLe (by repeat' constructor) (fun hcB => ?_)
   rw [Xa] at hcB
   rw [hs6]
   refine WpL.ent (Ent.own_nil (T := 5) (s := 1) (Ent.refl _)) ?_
   refine s_appR (xs := []) (m2 := (hdW k m.w m.h m.m).length) rfl rfl rfl (by repeat' constructor) RdsL.cvR (by exact Take.ent' (by repeat' constructor)) (by rw [Xa, Nat.mul_one]) (by rfl) (by rfl) (YM _) (by omega) (by omega) ?_
   intro a61 c61
   rw [List.nil_append, Nat.zero_add]
   refine Qe rfl rfl (WpL.nil (Qb (Qa (Qc rfl rfl (Qc rfl rfl (s_appo rfl rfl rfl (by repeat' constructor) (by rfl) (by rfl) (YM _) (by omega) (by omega) ?_))))))
   intro a64 c64
   rw [Zy, ← List.length_append, show hdW k m.w m.h m.m ++ Xg k m.w.toNat (Qg m.m) m.px m.h.toNat = YY m k by rw [YY, if_neg (by omega)]]
   refine ZX (by repeat' constructor) (fun hco => ?_)
   refine Qe rfl rfl (Qe rfl rfl (WpL.nil (Qi ?_)))
   apply RetQ.mk
   ·exact (QB rfl rfl rfl)
   ·exact ⟨QG 5 1 a64 c64 (YY m k).length (Xr (YY m k)), a64, c64, QE, hco, rfl, rfl⟩
   ·exact Take.ent' (by repeat' constructor)

end Go.Proofs.YtggamdlpiejbiaaGreat
namespace Go.Proofs.YtggamdlpiejbiaaGreat
open Go.RowKit Go.Shelf

theorem tk_dig {most n : Int} {ph : Int} {d : Nat} (hph : ph = 0 ∨ ph = 2) (hd : d < 10) (hm : n * 10 + d ≤ most) (hn : 0 ≤ n) : QV most ⟨ph, n, 9⟩ (48 + (d : Int)) = (⟨2, n * 10 + d, 9⟩, 0) := by
  have hst : Xo n (48 + (d : Int)) most = (n * 10 + d, 0) := by
    unfold Xo
    rw [if_neg (by omega), if_neg (by omega)]
    exact Prod.ext (by simp only; omega) rfl
  have hb : Q6 (48 + (d : Int)) = false := decide_eq_false (by omega)
  unfold QV
  rw [if_neg (by simp only; omega), if_neg (by simp only; omega), if_neg (by simp only; omega), if_neg (by simp only; omega), if_neg (by omega), if_neg (by rw [hb]; decide)]
  simp only [hst]
  rw [if_neg (by simp)]
theorem hd_dig {l0 l1 l2 K W H M i n : Int} {ph : Int} {d : Nat} (hph : ph = 0 ∨ ph = 2) (hd : d < 10) (hn : 0 ≤ n) (hm : n * 10 + d ≤ X4 l0 l1 l2 i) (bs : List Int) (k : Int) : Xl l0 l1 l2 ⟨K, W, H, M, 3, i, ⟨ph, n, 9⟩, 0, 9⟩ ((48 + (d : Int)) :: bs) k = Xl l0 l1 l2 ⟨K, W, H, M, 3, i, ⟨2, n * 10 + d, 9⟩, 0, 9⟩ bs (k + 1) := by
  have e : Q1 l0 l1 l2 ⟨K, W, H, M, 3, i, ⟨ph, n, 9⟩, 0, 9⟩ (48 + (d : Int)) = ⟨K, W, H, M, 3, i, ⟨2, n * 10 + d, 9⟩, 0, 9⟩ := by
    unfold Q1
    rw [if_neg (by simp), if_neg (by simp)]
    unfold XF
    simp only [tk_dig hph hd hm hn]
    rfl
  rw [ZB _ _ _ (by rw [e]), e]
theorem hd_digs {l0 l1 l2 K W H M i : Int} : ∀ (n : Nat), (n : Int) ≤ X4 l0 l1 l2 i → ∀ (bs : List Int) (k : Int), Xl l0 l1 l2 ⟨K, W, H, M, 3, i, tk0, 0, 9⟩ (XG n ++ bs) k = Xl l0 l1 l2 ⟨K, W, H, M, 3, i, ⟨2, n, 9⟩, 0, 9⟩ bs (k + (XG n).length) := by
  intro n
  induction n using Nat.strongRecOn with
  | _ n ih =>
    intro hm bs k
    rw [XG]
    by_cases h : n < 10
    · rw [if_pos h]
      have := hd_dig (l0 := l0) (l1 := l1) (l2 := l2) (K := K) (W := W) (H := H) (M := M) (i := i) (n := 0) (ph := 0) (.inl rfl) h (by omega) (by omega) bs k
      rw [show (0 * 10 + (n : Int)) = n by omega] at this
      exact this
    · rw [if_neg h, List.append_assoc, ih (n / 10) (by omega) (by omega)]
      have := hd_dig (l0 := l0) (l1 := l1) (l2 := l2) (K := K) (W := W) (H := H) (M := M) (i := i) (n := ((n / 10 : Nat) : Int)) (ph := 2) (d := n % 10) (.inr rfl) (by omega) (by omega) (by omega) bs (k + (XG (n / 10)).length)
      rw [show (((n / 10 : Nat) : Int) * 10 + ((n % 10 : Nat) : Int)) = n by omega] at this
      rw [List.length_append]
      refine this.trans ?_
      congr 1
      simp only [List.length_cons, List.length_nil]
      push_cast
      omega
/-- A number's last digit, and the blank behind it. -/
theorem hd_end {l0 l1 l2 K W H M i c : Int} {n : Int} (hn : 1 ≤ n) (hc : Q6 c = true) : Q1 l0 l1 l2 ⟨K, W, H, M, 3, i, ⟨2, n, 9⟩, 0, 9⟩ c = (if (XX (YB ⟨K, W, H, M, 3, i, ⟨2, n, 9⟩, 0, 9⟩ n)).i < 3 then { XX (YB ⟨K, W, H, M, 3, i, ⟨2, n, 9⟩, 0, 9⟩ n) with t := tk0, last := 0 } else { XX (YB ⟨K, W, H, M, 3, i, ⟨2, n, 9⟩, 0, 9⟩ n) with t := ⟨4, n, 0⟩, last := 1, e := 0 }) := by
  have h35 : c ≠ 35 := fun e => by subst e; simp [Q6] at hc
  have ht : QV (X4 l0 l1 l2 i) ⟨2, n, 9⟩ c = (⟨4, n, 0⟩, 1) := by
    unfold QV
    rw [if_neg (by simp), if_neg (by simp), if_neg (by simp), if_neg (by simp), if_neg h35, if_pos hc, if_neg (by simp)]
  unfold Q1
  rw [if_neg (by simp), if_neg (by simp)]
  unfold XF
  simp only [ht]
  rw [if_neg (by decide), if_neg (by decide), if_neg (by omega)]
/-- A head that is done. -/
def hdZ (K W H M : Int) (i : Int) (t : TS) : HS := ⟨K, W, H, M, 3, i, t, 1, 0⟩
theorem hd_back {l0 l1 l2 K W H M : Int} (_hL : LimO l0 l1 l2) (hM : Xv K W H M) (h0 : W ≤ l0) (h1 : H ≤ l1) (h2 : M ≤ l2) (bs : List Int) : ∃ t, Xl l0 l1 l2 hd0 (hdW K W H M ++ bs) 0 = (hdZ K W H M 3 t, ((hdW K W H M).length : Int)) := by
  unfold Xv at hM
  have hd1 : XG K.toNat = [48 + K] := by rw [XG, if_pos (by omega)]; congr 1; omega
  have hb32 : Q6 32 = true := rfl
  have hb10 : Q6 10 = true := rfl
  have e1 : Q1 l0 l1 l2 hd0 80 = ⟨0, 0, 0, 0, 1, 0, tk0, 0, 9⟩ := by simp [Q1, XP, hd0]
  have e2 : Q1 l0 l1 l2 ⟨0, 0, 0, 0, 1, 0, tk0, 0, 9⟩ (48 + K) = ⟨K, 0, 0, 0, 2, 0, tk0, 0, 9⟩ := by
    unfold Q1 XP
    rw [if_neg (by simp), if_pos (by simp), if_neg (by simp; omega), if_pos (by simp)]
    show (⟨48 + K - 48, 0, 0, 0, 2, 0, tk0, 0, 9⟩ : HS) = _
    rw [show (48 + K - 48 : Int) = K by omega]
  have e3 : Q1 l0 l1 l2 ⟨K, 0, 0, 0, 2, 0, tk0, 0, 9⟩ 10 = ⟨K, 0, 0, 0, 3, 0, tk0, 0, 9⟩ := by
    unfold Q1 XP
    rw [if_neg (by simp), if_pos (by simp), if_neg (by simp), if_neg (by simp), if_pos (by simp), if_neg (by simp [hb10])]
    have ht : (QV l0 tk0 10).1 = tk0 := by
      unfold QV tk0
      rw [if_neg (by simp), if_neg (by simp), if_neg (by simp), if_neg (by simp), if_neg (by decide), if_pos hb10, if_pos (by simp)]
    rw [ht]
    rfl
  have hWt : ((W.toNat : Nat) : Int) = W := by omega
  have hHt : ((H.toNat : Nat) : Int) = H := by omega
  have hMt : ((M.toNat : Nat) : Int) = M := by omega
  have e4 : Q1 l0 l1 l2 ⟨K, 0, 0, 0, 3, 0, ⟨2, W, 9⟩, 0, 9⟩ 32 = ⟨K, W, 0, 0, 3, 1, tk0, 0, 9⟩ := by
    rw [hd_end (by omega) hb32]
    simp [YB, XX]
  have e5 : ∀ (hb : Zc K), Q1 l0 l1 l2 ⟨K, W, 0, 0, 3, 1, ⟨2, H, 9⟩, 0, 9⟩ 10 = ⟨K, W, H, 1, 3, 3, ⟨4, H, 0⟩, 1, 0⟩ := fun hb => by
    rw [hd_end (by omega) hb10]
    simp [YB, XX, hb]
  have e6 : ∀ (hb : ¬ Zc K), Q1 l0 l1 l2 ⟨K, W, 0, 0, 3, 1, ⟨2, H, 9⟩, 0, 9⟩ 10 = ⟨K, W, H, 0, 3, 2, tk0, 0, 9⟩ := fun hb => by
    rw [hd_end (by omega) hb10]
    simp [YB, XX, hb]
  have e7 : Q1 l0 l1 l2 ⟨K, W, H, 0, 3, 2, ⟨2, M, 9⟩, 0, 9⟩ 10 = ⟨K, W, H, M, 3, 3, ⟨4, M, 0⟩, 1, 0⟩ := by
    rw [hd_end (by omega) hb10]
    simp [YB, XX]
  have hl0 : X4 l0 l1 l2 0 = l0 := rfl
  have hl1 : X4 l0 l1 l2 1 = l1 := rfl
  have hl2 : X4 l0 l1 l2 2 = l2 := rfl
  have hw := hd_digs (l0 := l0) (l1 := l1) (l2 := l2) (K := K) (W := 0) (H := 0) (M := 0) (i := 0) W.toNat (by rw [hl0]; omega)
  have hh := hd_digs (l0 := l0) (l1 := l1) (l2 := l2) (K := K) (W := W) (H := 0) (M := 0) (i := 1) H.toNat (by rw [hl1]; omega)
  have hm := hd_digs (l0 := l0) (l1 := l1) (l2 := l2) (K := K) (W := W) (H := H) (M := 0) (i := 2) M.toNat (by rw [hl2]; omega)
  rw [hWt] at hw
  rw [hHt] at hh
  rw [hMt] at hm
  unfold hdW
  rw [hd1]
  simp only [List.append_assoc, List.cons_append, List.nil_append]
  rw [ZB _ _ _ (by rw [e1]), e1, ZB _ _ _ (by rw [e2]), e2, ZB _ _ _ (by rw [e3]), e3, hw, ZB _ _ _ (by rw [e4]), e4, hh]
  by_cases hb : Zc K
  · rw [hdRun_fin _ _ _ (by rw [e5 hb]; exact fun q => absurd (show (1 : Int) = 0 from q) (by decide)), e5 hb]
    have hM1 : M = 1 := hM.2.2.2.2 hb
    subst hM1
    refine ⟨⟨4, H, 0⟩, Prod.ext rfl ?_⟩
    rw [if_pos (show K = 1 ∨ K = 4 from hb)]
    simp only [List.length_append, List.length_cons, List.length_nil]
    push_cast
    omega
  · rw [ZB _ _ _ (by rw [e6 hb]), e6 hb, if_neg (show ¬ (K = 1 ∨ K = 4) from hb)]
    simp only [List.append_assoc, List.cons_append, List.nil_append]
    rw [hm, hdRun_fin _ _ _ (by rw [e7]; exact fun q => absurd (show (1 : Int) = 0 from q) (by decide)), e7]
    refine ⟨⟨4, M, 0⟩, Prod.ext rfl ?_⟩
    simp only [List.length_append, List.length_cons, List.length_nil]
    push_cast
    omega
theorem hdP_back {l0 l1 l2 K W H M : Int} (hL : LimO l0 l1 l2) (hM : Xv K W H M) (h0 : W ≤ l0) (h1 : H ≤ l1) (h2 : M ≤ l2) (bs : List Int) : hdP l0 l1 l2 (hdW K W H M ++ bs) = ((K, W, H, M), ((hdW K W H M).length : Int), 0) := by
  obtain ⟨t, e⟩ := hd_back hL hM h0 h1 h2 bs
  rw [hdP_fin, e]
  rfl
end Go.Proofs.YtggamdlpiejbiaaGreat
namespace Go.Proofs.YtggamdlpiejbiaaGreat
open Go.RowKit Go.Shelf


theorem Z0 : QP 4096 = 4096 ∧ QR 65536 = 65536 ∧ QS 65535 = 65535 := by decide
end Go.Proofs.YtggamdlpiejbiaaGreat
namespace Go.Proofs.YtggamdlpiejbiaaGreat
open Go.RowKit Go.Shelf


def shP (d j : Int) (s : PS) : PS := { s with told := s.told + d, imgs := s.imgs + j }
def shE (d : Int) (es : List (Evt × Int)) : List (Evt × Int) := es.map fun x => (x.1, x.2 + d)
theorem shE_app (d : Int) (a b : List (Evt × Int)) : shE d (a ++ b) = shE d a ++ shE d b := List.map_append
theorem shE_fst (d : Int) (a : List (Evt × Int)) : (shE d a).map (·.1) = a.map (·.1) := by unfold shE; rw [List.map_map]; rfl
theorem sh_evts (d j : Int) (s : PS) (bd : Bd) (st e : Int) (row : List Int) : Xm (shP d j s) bd st e row = (shP d j (Xm s bd st e row).1, (Xm s bd st e row).2) := by
  unfold Xm shP
  refine Prod.ext ?_ rfl
  dsimp only
  repeat' split
  all_goals first | rfl | (simp only [PS.mk.injEq, true_and, and_true]; omega)
theorem sh_heads (d j : Int) (s : PS) (h : HS) : Q8 (shP d j s) h = (shP d j (Q8 s h).1, (Q8 s h).2) := by
  unfold Q8 shP
  repeat' split
  all_goals rfl
theorem sh_step (l0 l1 l2 d j : Int) (s : PS) (c : Int) : Xt l0 l1 l2 (shP d j s) c = (shP d j (Xt l0 l1 l2 s c).1, (Xt l0 l1 l2 s c).2) := by
  unfold Xt
  rw [show (shP d j s).ph = s.ph from rfl, show (shP d j s).hd = s.hd from rfl]
  by_cases h0 : s.ph = 0
  · rw [if_pos h0, if_pos h0]
    by_cases hb : Q6 c = true
    · rw [if_pos hb, if_pos hb]
    · rw [if_neg hb, if_neg hb, sh_heads]
  · rw [if_neg h0, if_neg h0]
    by_cases h1 : s.ph = 1
    · rw [if_pos h1, if_pos h1, sh_heads]
    · rw [if_neg h1, if_neg h1]
      unfold psBody
      rw [show (shP d j s).bd = s.bd from rfl]
      cases s.bd with
      | no => rfl
      | pl r => exact sh_evts d j s _ _ _ _
      | rw r => exact sh_evts d j s _ _ _ _
theorem sh_put (l0 l1 l2 d j : Int) (s : PS) (c : Int) : Xf l0 l1 l2 (shP d j s) c = (shP d j (Xf l0 l1 l2 s c).1, (Xf l0 l1 l2 s c).2) := by
  unfold Xf
  rw [show (shP d j s).over = s.over from rfl, show (shP d j s).e = s.e from rfl]
  by_cases h : s.over = true ∨ s.e ≠ 0
  · rw [if_pos h, if_pos h]
  · have e : ({ shP d j s with told := (shP d j s).told + 1 } : PS) = shP d j { s with told := s.told + 1 } := by unfold shP; simp only [PS.mk.injEq, true_and, and_true]; omega
    rw [if_neg h, if_neg h]
    exact (congrArg (fun z => Xt l0 l1 l2 z c) e).trans (sh_step l0 l1 l2 d j _ c)
theorem sh_run (l0 l1 l2 d j : Int) : ∀ (bs : List Int) (s : PS), QL l0 l1 l2 (shP d j s) bs = (shP d j (QL l0 l1 l2 s bs).1, shE d (QL l0 l1 l2 s bs).2)
  | [], s => rfl
  | c :: bs, s => by
    rw [Xz, Xz, sh_put, sh_run l0 l1 l2 d j bs]
    unfold Ye
    rw [shE_app]
    refine Prod.ext rfl ?_
    unfold shE
    rw [List.map_map]
    rfl
/-- Ahead of a head. -/
abbrev idP (hd : Option HS) (t i : Int) : PS := ⟨hd, 0, .no, t, i, false, 0⟩
theorem sh_id (hd : Option HS) (t i : Int) : idP hd t i = shP t i (idP hd 0 0) := by simp [shP]
section
variable {l0 l1 l2 : Int}
/-- Blanks alone. -/
theorem run_blanks {bs : List Int} : ∀ (hd : Option HS) (t i : Int), (∀ c ∈ bs, Q6 c = true) → QL l0 l1 l2 (idP hd t i) bs = (idP hd (t + bs.length) i, []) := by
  induction bs with
  | nil => intro hd t i _; simp [QL]
  | cons c bs ih =>
    intro hd t i h
    rw [run_blank _ _ _ (h c (by simp)), ih hd (t + 1) i fun x hx => h x (by simp [hx])]
    simp only [List.length_cons]
    congr 2
    push_cast
    omega
theorem feed_nil {K M : Int} {bs ss : List Int} (f : Feed K M bs ss) : ss = [] → ∀ c ∈ bs, Q6 c = true := by
  induction f with
  | nil => intro _ c hc; cases hc
  | blank h _ ih => intro e c hc; rcases List.mem_cons.1 hc with rfl | hc; exact h; exact ih e c hc
  | bit _ _ _ _ => intro e; cases e
  | num _ _ _ _ _ => intro e; cases e
/-- Bytes that end no raster, told. -/
theorem go1_run {h : HS} {bs out : List Int} {s s' : RS} (g : Go1 h.K h.W h.H h.M bs s s' out) : ∀ (t i : Int) (cs : List Int), ∃ rows, (∀ x ∈ rows, x.1.k = 2) ∧ (rows.flatMap fun x => x.1.row) = out ∧ QL l0 l1 l2 ⟨some h, 2, .pl s, t, i, false, 0⟩ (bs ++ cs) = Ye rows (QL l0 l1 l2 ⟨some h, 2, .pl s', t + bs.length, i, false, 0⟩ cs) := by
  induction g with
  | nil => intro t i cs; exact ⟨[], by simp, rfl, by simp [Ye]⟩
  | @cons c bs out s s' hl g ih =>
    intro t i cs
    obtain ⟨rows, h1, h2, h3⟩ := ih (t + 1) i cs
    have hr := (YH l0 l1 l2 (bs := bs ++ cs) (put_pl l0 l1 l2 (h := h) (r := s) (told := t) (imgs := i) (c := c))).1 hl
    have hf := row_flat (XH h.K h.W h.H h.M s c).2 (t + 1)
    refine ⟨atE (XC (XH h.K h.W h.H h.M s c).2) (t + 1) ++ rows, fun x hx => (List.mem_append.1 hx).elim (hf.2 x) (h1 x), by rw [List.flatMap_append, hf.1, h2], ?_⟩
    rw [List.cons_append, hr, h3, papp_papp]
    congr 3
    simp only [List.length_cons]
    push_cast
    omega
theorem smp_cnt {K W H : Int} (s : RS) (x : Int) : (s.one.length : Int) + 1 + QW K * s.row.length = ((Yr K W H s x).1.one.length : Int) + QW K * ((Yr K W H s x).1.row.length + (Yr K W H s x).2.length) := by
  have hch : QW K = 1 ∨ QW K = 3 := by unfold QW; split <;> simp
  unfold Yr XB YL XE
  by_cases h : ((s.one ++ [x]).length : Int) = QW K
  · simp only [if_pos h]
    simp only [List.length_append, List.length_cons, List.length_nil] at h
    split <;> simp only [List.length_append, List.length_cons, List.length_nil] <;> rcases hch with e | e <;> rw [e] at h ⊢ <;> push_cast at h ⊢ <;> omega
  · simp only [if_neg h]
    split <;> simp only [List.length_append, List.length_cons, List.length_nil] <;> rcases hch with e | e <;> rw [e] <;> push_cast <;> omega
theorem smp_last {K W H : Int} (s : RS) (x : Int) (hl : s.last = 0) (h : (Yr K W H s x).1.last = 1) : (Yr K W H s x).1.row = [] := by
  unfold Yr XB at h ⊢
  split
  · rename_i q
    rw [if_pos q] at h
    exact absurd (h.symm.trans (show (YL (QW K) s x).last = 0 from hl)) (by decide)
  · rfl
/-- A plain raster's samples told, to its last one. -/
theorem feed_run {h : HS} (hW : 1 ≤ h.W) {bs ss : List Int} (f : Feed h.K h.M bs ss) : ∀ (s s' : RS) (out : List Int), Cl h.W s → Zg h.K h.W h.H ss s = (true, s', out) → ∀ (t i : Int), ∃ b1 b2 ss1 ss2 rows t', bs = b1 ++ b2 ∧ ss = ss1 ++ ss2 ∧ Feed h.K h.M b2 ss2 ∧
    ((ss1.length : Int) + s.one.length + QW h.K * s.row.length = (s'.one.length : Int) + QW h.K * out.length) ∧ (∀ x ∈ rows, x.1.k = 2) ∧ (rows.flatMap fun x => x.1.row) = out ∧ QL l0 l1 l2 ⟨some h, 2, .pl s, t, i, false, 0⟩ b1 = (idP (some h) (t + b1.length) (i + 1), rows ++ [dnE t']) := by
  have one : ∀ (c x : Int) (s s1 : RS) (t i : Int), XH h.K h.W h.H h.M s c = Yr h.K h.W h.H s1 x → (Yr h.K h.W h.H s1 x).1.last = 1 → ∃ rows t', (∀ x ∈ rows, x.1.k = 2) ∧ (rows.flatMap fun x => x.1.row) = (Yr h.K h.W h.H s1 x).2 ∧ QL l0 l1 l2 ⟨some h, 2, .pl s, t, i, false, 0⟩ [c] = (idP (some h) (t + 1) (i + 1), rows ++ [dnE t']) := by
    intro c x s s1 t i hp hl
    have hr := (YH l0 l1 l2 (bs := []) (put_pl l0 l1 l2 (h := h) (r := s) (told := t) (imgs := i) (c := c))).2.1 (by rw [hp]; exact hl)
    have hf := row_flat (XH h.K h.W h.H h.M s c).2 (t + 1)
    rw [hp] at hr hf
    exact ⟨_, t + 1, hf.2, hf.1, by rw [hr]; simp [QL, Ye]⟩
  have cnt1 : ∀ (s1 : RS) (x : Int), s1.last = 0 → (Yr h.K h.W h.H s1 x).1.last = 1 → (([x].length : Nat) : Int) + s1.one.length + QW h.K * s1.row.length = ((Yr h.K h.W h.H s1 x).1.one.length : Int) + QW h.K * (Yr h.K h.W h.H s1 x).2.length := by
    intro s1 x h0 h1
    have q := smp_cnt (K := h.K) (W := h.W) (H := h.H) s1 x
    rw [smp_last s1 x h0 h1] at q
    simp only [List.length_cons, List.length_nil] at q ⊢
    push_cast at q ⊢
    rw [Int.zero_add] at q
    omega
  have cnt2 : ∀ (s1 s' : RS) (x : Int) (ss1 out : List Int), (ss1.length : Int) + (Yr h.K h.W h.H s1 x).1.one.length + QW h.K * (Yr h.K h.W h.H s1 x).1.row.length = (s'.one.length : Int) + QW h.K * out.length → (((x :: ss1).length : Nat) : Int) + s1.one.length + QW h.K * s1.row.length = (s'.one.length : Int) + QW h.K * (((Yr h.K h.W h.H s1 x).2 ++ out).length : Nat) := by
    intro s1 s' x ss1 out e
    have q := smp_cnt (K := h.K) (W := h.W) (H := h.H) s1 x
    rw [List.length_append, List.length_cons]
    push_cast
    rw [Int.mul_add] at q ⊢
    omega
  induction f with
  | nil => intro s s' out _ h; simp [Zg] at h
  | @blank c bs ss hb f ih =>
    intro s s' out hs hq t i
    obtain ⟨b1, b2, ss1, ss2, rows, t', e1, e2, e3, e4, e5, e6, e7⟩ := ih s s' out hs hq (t + 1) i
    have hr := (YH l0 l1 l2 (bs := b1) (put_pl l0 l1 l2 (h := h) (r := s) (told := t) (imgs := i) (c := c))).1 (by rw [put_blank hb hs]; exact hs.2.1)
    rw [put_blank hb hs] at hr
    refine ⟨c :: b1, b2, ss1, ss2, rows, t', by rw [e1]; rfl, e2, e3, e4, e5, e6, ?_⟩
    rw [hr, e7]
    simp only [XC, atE, Ye, List.map_nil, List.nil_append, if_true, List.length_cons]
    congr 2
    push_cast
    omega
  | @bit x bs ss hK hx f ih =>
    intro s s' out hs hq t i
    have hp := put_bit (H := h.H) (M := h.M) hK hx hs
    rw [Zg] at hq
    split at hq
    · rename_i hl
      simp only [Prod.mk.injEq, true_and] at hq
      obtain ⟨rfl, rfl⟩ := hq
      obtain ⟨rows, t', h1, h2, h3⟩ := one (48 + x) x s s t i hp hl
      exact ⟨[48 + x], bs, [x], ss, rows, t', rfl, rfl, f, cnt1 s x hs.2.1 hl, h1, h2, h3⟩
    · rename_i hl
      have hc := (smpR_cl hW hs).resolve_left hl
      simp only [Prod.mk.injEq] at hq
      obtain ⟨h1, rfl, rfl⟩ := hq
      obtain ⟨b1, b2, ss1, ss2, rows, t', e1, e2, e3, e4, e5, e6, e7⟩ := ih _ _ _ hc (Prod.ext h1 rfl) (t + 1) i
      have hr := (YH l0 l1 l2 (bs := b1) (put_pl l0 l1 l2 (h := h) (r := s) (told := t) (imgs := i) (c := 48 + x))).1 (by rw [hp]; exact hc.2.1)
      have hf := row_flat (Yr h.K h.W h.H s x).2 (t + 1)
      rw [hp, e7] at hr
      refine ⟨(48 + x) :: b1, b2, x :: ss1, ss2, atE (XC (Yr h.K h.W h.H s x).2) (t + 1) ++ rows, t', by rw [e1]; rfl, by rw [e2]; rfl, e3, cnt2 s _ x ss1 _ e4, fun y hy => (List.mem_append.1 hy).elim (hf.2 y) (e5 y), by rw [List.flatMap_append, hf.1, e6], ?_⟩
      rw [hr]
      simp only [Ye, List.length_cons, List.append_assoc]
      congr 2
      push_cast
      omega
  | @num n c bs ss hK hM hb f ih =>
    intro s s' out hs hq t i
    obtain ⟨n0, one', row, rows0, last, e⟩ := s
    have hs0 := hs
    obtain ⟨rfl, rfl, hr0⟩ := hs
    have hg := dig_run (H := h.H) hK n one' row rows0 e hM hr0
    have hp := put_end (W := h.W) (H := h.H) (M := h.M) (one := one') (row := row) (rows := rows0) (e := e) (n := n) hK hb
    rw [Zg] at hq
    split at hq
    · rename_i hl
      simp only [Prod.mk.injEq, true_and] at hq
      obtain ⟨rfl, rfl⟩ := hq
      obtain ⟨rA, g1, g2, g3⟩ := go1_run (l0 := l0) (l1 := l1) (l2 := l2) (h := h) hg t i [c]
      obtain ⟨rows, t', h1, h2, h3⟩ := one c n _ _ (t + (XG n).length) i hp hl
      refine ⟨XG n ++ [c], bs, [(n : Int)], ss, rA ++ rows, t', by simp, rfl, f, cnt1 _ n rfl hl, fun y hy => (List.mem_append.1 hy).elim (g1 y) (h1 y), by rw [List.flatMap_append, g2, h2]; rfl, ?_⟩
      rw [g3, h3]
      simp only [Ye, List.length_append, List.length_cons, List.length_nil, List.append_assoc]
      congr 2
      push_cast
      omega
    · rename_i hl
      have hc := (smpR_cl hW hs0).resolve_left hl
      simp only [Prod.mk.injEq] at hq
      obtain ⟨h1, rfl, rfl⟩ := hq
      obtain ⟨b1, b2, ss1, ss2, rows, t', e1, e2, e3, e4, e5, e6, e7⟩ := ih _ _ _ hc (Prod.ext h1 rfl) (t + (XG n).length + 1) i
      obtain ⟨rA, g1, g2, g3⟩ := go1_run (l0 := l0) (l1 := l1) (l2 := l2) (h := h) hg t i (c :: b1)
      have hr := (YH l0 l1 l2 (bs := b1) (put_pl l0 l1 l2 (h := h) (r := ⟨n, one', row, rows0, 0, e⟩) (told := t + (XG n).length) (imgs := i) (c := c))).1 (by rw [hp]; exact hc.2.1)
      have hf := row_flat (Yr h.K h.W h.H ⟨-1, one', row, rows0, 0, e⟩ n).2 (t + (XG n).length + 1)
      rw [hp, e7] at hr
      refine ⟨XG n ++ c :: b1, b2, (n : Int) :: ss1, ss2, rA ++ (atE (XC (Yr h.K h.W h.H ⟨-1, one', row, rows0, 0, e⟩ n).2) (t + (XG n).length + 1) ++ rows), t', by rw [e1]; simp, by rw [e2]; rfl, e3, cnt2 _ _ n ss1 _ e4, fun y hy => (List.mem_append.1 hy).elim (g1 y) fun q => (List.mem_append.1 q).elim (hf.2 y) (e5 y), by rw [List.flatMap_append, List.flatMap_append, g2, hf.1, e6]; rfl, ?_⟩
      rw [g3, hr]
      simp only [Ye, List.length_append, List.length_cons, List.append_assoc]
      congr 2
      push_cast
      omega
theorem unp_len {ch M : Int} : ∀ {l : List Int}, (∀ p ∈ l, Can ch M p) → ((l.flatMap Qn).length : Int) = ch * l.length
  | [], _ => by simp
  | p :: l, h => by
    have ih := unp_len fun q hq => h q (List.mem_cons_of_mem _ hq)
    have h1 := (h p (by simp)).1
    rw [List.flatMap_cons, List.length_append, List.length_cons]
    push_cast
    rw [Int.mul_add, ih, h1]
    omega
/-- A plain raster that was written, told. -/
theorem plain_run {h : HS} {bs px : List Int} (hP : Zi h.K h.W h.H h.M) (f : Feed h.K h.M bs (px.flatMap Qn)) (hc : ∀ p ∈ px, Can (QW h.K) h.M p) (hl : (px.length : Int) = h.H * h.W) (t i : Int) : ∃ rows t', (∀ x ∈ rows, x.1.k = 2) ∧ (rows.flatMap fun x => x.1.row) = px ∧ QL l0 l1 l2 ⟨some h, 2, .pl s0R, t, i, false, 0⟩ bs = (idP (some h) (t + bs.length) (i + 1), rows ++ [dnE t']) := by
  have hP2 := hP.1
  unfold Xv at hP2
  obtain ⟨s', hs⟩ := (rows_fold (K := h.K) (W := h.W) (H := h.H) (M := h.M) (by omega) px [] 0 hc (by simp; omega) (by omega)).1 (by simpa using hl)
  rw [List.nil_append] at hs
  obtain ⟨b1, b2, ss1, ss2, rows, t', e1, e2, e3, e4, e5, e6, e7⟩ := feed_run (l0 := l0) (l1 := l1) (l2 := l2) (by omega) f s0R s' _ ⟨rfl, rfl, by simp [s0R]; omega⟩ hs t i
  have hn := unp_len hc
  rw [e2, List.length_append] at hn
  push_cast at hn
  simp only [s0R, List.length_nil] at e4
  have h2 : ss2 = [] := List.eq_nil_of_length_eq_zero (by push_cast at e4; omega)
  refine ⟨rows, t', e5, e6, ?_⟩
  rw [e1, YT, e7]
  dsimp only
  rw [run_blanks _ _ _ (feed_nil e3 h2)]
  simp only [Ye, List.append_nil, List.length_append]
  congr 2
  push_cast
  omega
theorem raw_rows {h : HS} {bs : List Int} (hf : YC h) (hb : ¬ Zj h.K h.W.toNat h.H.toNat h.M bs > 0) (hl : h.H.toNat * QF h.K h.W.toNat (Qg h.M) ≤ bs.length) : ∀ y, y ≤ h.H.toNat → rwI l0 l1 l2 h bs 0 0 y (rowsX h bs y)
  | 0, _ => rwI0 (by have := hf.2.2; unfold Xv at this; omega)
  | y + 1, hy => by
    rw [rowsX_succ]
    refine rw_row hf (raw_rows hf hb hl y (by omega)) (by omega) (by rw [List.drop_zero]; exact fun q => hb q.1) ?_
    have := Nat.mul_le_mul_right (QF h.K h.W.toNat (Qg h.M)) hy
    omega
/-- A raw raster that was written, told. -/
theorem raw_run {h : HS} {bs px : List Int} (hf : YC h) (hr : rawF h.K h.W.toNat h.H.toNat h.M bs = (px, 0)) (hl : bs.length = h.H.toNat * QF h.K h.W.toNat (Qg h.M)) (t i : Int) : ∃ rows t', (∀ x ∈ rows, x.1.k = 2) ∧ (rows.flatMap fun x => x.1.row) = px ∧ QL l0 l1 l2 ⟨some h, 2, .rw (rw0 h), t, i, false, 0⟩ bs = (idP (some h) (t + bs.length) (i + 1), rows ++ [dnE t']) := by
  have hM := hf.2.2
  unfold Xv at hM
  unfold rawF at hr
  split at hr
  · cases hr
  · rename_i hb
    split at hr
    · cases hr
    · have hI := raw_rows (l0 := l0) (l1 := l1) (l2 := l2) hf hb (by omega) h.H.toNat (Nat.le_refl _)
      have hq := hI.2 (by omega)
      rw [List.drop_zero, Nat.zero_add, ← hl, List.drop_length] at hq
      have hs := sh_run l0 l1 l2 t i bs ⟨some h, 2, .rw (rw0 h), 0, 0, false, 0⟩
      have hz : QL l0 l1 l2 ⟨some h, 2, .rw (rw0 h), ((0 : Nat) : Int), 0, false, 0⟩ bs = QL l0 l1 l2 ⟨some h, 2, .rw (rw0 h), 0, 0, false, 0⟩ bs := rfl
      rw [← hz, hq] at hs
      simp only [shP, QL, Ye, Int.zero_add, List.append_nil] at hs
      simp only [Prod.mk.injEq] at hr
      refine ⟨shE t (rowsX h bs h.H.toNat), (bs.length : Int) + t, fun x hx => ?_, ?_, ?_⟩
      · obtain ⟨y, hy, rfl⟩ := List.mem_map.1 hx
        exact rowsX_k h bs _ y hy
      · rw [← hr.1, ← rowsX_flat]
        unfold shE
        rw [List.flatMap_map]
      · rw [hs, shE_app, Int.add_comm t, Int.add_comm i]
        rfl
end
/-- What events tell of images, wherever they stand. -/
def ImP (es : List (Evt × Int)) (L : List Img) : Prop := ∀ es0, imsO (es0 ++ es) = imsO es0 ++ L
theorem ImP.nil : ImP [] [] := fun es0 => by simp
theorem ImP.app {a b : List (Evt × Int)} {L M : List Img} (h : ImP a L) (g : ImP b M) : ImP (a ++ b) (L ++ M) := fun es0 => by rw [← List.append_assoc, g, h, List.append_assoc]
theorem ImP.all {es : List (Evt × Int)} {L : List Img} (h : ImP es L) : imsO es = L := by
  have := h []
  simpa [imsO, imgsOf] using this
theorem ImP.sh {es : List (Evt × Int)} {L : List Img} (h : ImP es L) (d : Int) : ImP (shE d es) L := fun es0 => by
  have := h es0
  unfold imsO at this ⊢
  rw [List.map_append, shE_fst, ← List.map_append]
  exact this
def hdE (hd : Option HS) : Prop := ∀ x, hd = some x → x.e = 0
/-- An image that was written, told from anywhere. -/
theorem img_run {most : Int} (hmo : most ≤ 100) {m : Img} {k : Int} (hg : YG most m) (hk : k ∈ QJ m.c m.m) (hd : Option HS) (t i : Int) : ∃ hd' es, hdE hd' ∧ ImP es [m] ∧ QL 4096 65536 65535 (idP hd t i) (YY m k) = (idP hd' (t + (YY m k).length) (i + 1), es) := by
  obtain ⟨hMay, hfit, _⟩ := good_fits hmo hg hk
  obtain ⟨_, hk16, hck, hk1⟩ := kinds_mem hk
  obtain ⟨_, hg2, hgw, hgh, hgl, hgp⟩ := hg
  have hcan : ∀ p ∈ m.px, Can (QW k) m.m p := fun p hp => by rw [hck]; exact (hgp p hp).1
  have hL : LimO 4096 65536 65535 := ⟨by omega, by omega, by omega⟩
  have hM2 := hMay
  unfold Xv at hM2
  obtain ⟨R, hR⟩ : ∃ R, R = (if k < 4 then wrL k m.w 0 m.px else Xg k m.w.toNat (Qg m.m) m.px m.h.toNat) := ⟨_, rfl⟩
  have hwr : YY m k = hdW k m.w m.h m.m ++ R := by rw [hR]; rfl
  have hP := hdP_back hL hMay (by omega) (by omega) (by omega) R
  have h80 : ∃ r, hdW k m.w m.h m.m ++ R = 80 :: r := ⟨_, by unfold hdW; simp only [List.append_assoc, List.cons_append, List.nil_append]; rfl⟩
  obtain ⟨r80, h80⟩ := h80
  obtain ⟨-, -, -, hfin⟩ := run_parse hL (bs := hdW k m.w m.h m.m ++ R) (at_ := 0) (imgs := 0) (hd := hd) (c := 80) (r := r80) (by rw [List.drop_zero]; exact h80) rfl hP.symm
  obtain ⟨h', hf, rfl, hW, hH, hM, hrun⟩ := hfin rfl
  rw [List.drop_zero] at hrun
  have hn : (((0 : Nat) : Int) + ((hdW h'.K m.w m.h m.m).length : Int)).toNat = (hdW h'.K m.w m.h m.m).length := by omega
  rw [hn, List.drop_left] at hrun
  have hbody : ∃ rows t', (∀ x ∈ rows, x.1.k = 2) ∧ (rows.flatMap fun x => x.1.row) = m.px ∧ QL 4096 65536 65535 ⟨some h', 2, bd0 h', ((0 : Nat) : Int) + ((hdW h'.K m.w m.h m.m).length : Int), 0, false, 0⟩ R = (idP (some h') (((0 : Nat) : Int) + ((hdW h'.K m.w m.h m.m).length : Int) + R.length) (0 + 1), rows ++ [dnE t']) := by
    by_cases h4 : h'.K < 4
    · rw [if_pos h4] at hR
      rw [bd0, if_neg (by omega), hR]
      refine plain_run ⟨by rw [hW, hH, hM]; exact hMay, by omega⟩ ?_ (by rw [hM]; exact hcan) (by rw [hW, hH, hgl, Int.mul_comm]) _ _
      rw [hM]
      exact feed_wr (by omega) (by omega) (fun q => hk1 (.inl q)) m.px 0 hcan
    · rw [if_neg h4] at hR
      rw [bd0, if_pos (by omega), hR]
      have hWn : ((m.w.toNat : Nat) : Int) = m.w := by omega
      have hHn : ((m.h.toNat : Nat) : Int) = m.h := by omega
      have hpn : m.px.length = m.w.toNat * m.h.toNat := by
        have q : ((m.w.toNat * m.h.toNat : Nat) : Int) = m.w * m.h := by rw [Int.natCast_mul, hWn, hHn]
        omega
      have hsb := XU (K := h'.K) (W := m.w.toNat) (Q2 m.m) (by omega) (by omega)
      have hb := raw_back (K := h'.K) (M := m.m) (W := m.w.toNat) (Hn := m.h.toNat) (by omega) (by omega) (fun h => hk1 (.inr h)) hpn hcan (List.replicate (QF h'.K m.w.toNat (Qg m.m)) 0) (by simp) 0
      have hw := readW_raw hf (Xg h'.K m.w.toNat (Qg m.m) m.px m.h.toNat) (List.replicate (QF h'.K m.w.toNat (Qg m.m)) 0) (by rw [hW, hM]; simp) (by rw [List.length_replicate]; exact hsb.1)
      have hwl := Yc (K := h'.K) (w := Qg m.m) (Q2 m.m) hpn (fun p hpp => by have := Vc (hfit p hpp); omega) m.h.toNat (Nat.le_refl _)
      rw [hW, hH, hM] at hw
      rw [hHn] at hb
      refine raw_run hf (by rw [hW, hH, hM]; exact hw.symm.trans hb) ?_ _ _
      rw [hW, hH, hM, hwl]
      exact Nat.mul_comm _ _
  obtain ⟨rows, t', hk2, hfl, hb⟩ := hbody
  refine ⟨some h', shE t ((begE h', ((0 : Nat) : Int) + ((hdW h'.K m.w m.h m.m).length : Int)) :: (rows ++ [dnE t'])), fun x hx => by cases hx; exact hf.2.1, ImP.sh (fun es0 => ?_) t, ?_⟩
  · have := imsO_body (h := h') (es := es0) (n := ((0 : Nat) : Int) + ((hdW h'.K m.w m.h m.m).length : Int)) (out := rows ++ [dnE t']) rfl hk2
    rw [List.append_assoc] at this
    rw [show imOf h' (rows ++ [dnE t']) = m by
      unfold imOf
      rw [List.flatMap_append, hfl, hck, hW, hH, hM]
      simp [dnE]] at this
    exact this
  · rw [sh_id hd t i, hwr, sh_run]
    have hz : QL 4096 65536 65535 (idP hd 0 0) (hdW h'.K m.w m.h m.m ++ R) = Ye [(begE h', ((0 : Nat) : Int) + ((hdW h'.K m.w m.h m.m).length : Int))] (idP (some h') (((0 : Nat) : Int) + ((hdW h'.K m.w m.h m.m).length : Int) + R.length) (0 + 1), rows ++ [dnE t']) := by rw [← hb]; exact hrun
    rw [hz]
    simp only [Ye, shP, List.length_append]
    refine Prod.ext ?_ rfl
    simp only [PS.mk.injEq, true_and, and_true]
    push_cast
    omega
/-- Images, joined. -/
theorem join_run {most : Int} (hmo : most ≤ 100) : ∀ {ms : List Img} {ks : List Int}, KindsOk ms ks → (∀ m ∈ ms, YG most m) → ∀ (hd : Option HS) (t i : Int), hdE hd → ∃ hd' es, hdE hd' ∧ ImP es ms ∧ QL 4096 65536 65535 (idP hd t i) (YR ms ks) = (idP hd' (t + (YR ms ks).length) (i + ms.length), es)
  | [], [], _, _, hd, t, i, he => ⟨hd, [], he, ImP.nil, by simp [YR, QL]⟩
  | m :: ms, k :: ks, ⟨h1, h2⟩, hg, hd, t, i, he => by
    obtain ⟨hd1, e1, q1, q2, q3⟩ := img_run hmo (hg m (by simp)) h1 hd t i
    have hn : ∀ c ∈ (if k < 4 then [10] else [] : List Int), Q6 c = true := fun c hc => by
      split at hc
      · simp at hc; subst hc; rfl
      · simp at hc
    obtain ⟨hd2, e2, p1, p2, p3⟩ := join_run hmo h2 (fun x hx => hg x (by simp [hx])) hd1 (t + (YY m k).length + (if k < 4 then [10] else [] : List Int).length) (i + 1) q1
    refine ⟨hd2, e1 ++ e2, p1, ImP.app q2 p2, ?_⟩
    rw [YR, List.append_assoc, YT, q3]
    dsimp only
    rw [YT, run_blanks _ _ _ hn]
    dsimp only
    rw [p3]
    simp only [Ye, List.length_append, List.length_cons, List.nil_append]
    refine Prod.ext ?_ rfl
    simp only [PS.mk.injEq, true_and, and_true]
    push_cast
    omega
theorem join_runL {most : Int} (hmo : most ≤ 100) {ms : List Img} {ks : List Int} (h : KindsOk ms ks) (hg : ∀ m ∈ ms, YG most m) (hd : Option HS) (t i : Int) (he : hdE hd) : ∃ hd' es, hdE hd' ∧ ImP es ms ∧ QL (QP 4096) (QR 65536) (QS 65535) (idP hd t i) (YR ms ks) = (idP hd' (t + (YR ms ks).length) (i + ms.length), es) := by
  rw [Z0.1, Z0.2.1, Z0.2.2]
  exact join_run hmo h hg hd t i he
end Go.Proofs.YtggamdlpiejbiaaGreat
namespace Go.Proofs.YtggamdlpiejbiaaGreat
open Go.RowKit Go.Shelf


/-- Images' bytes, joined, or refused. -/
def jnF : List Img → List Int → List Int → List Int × Int
  | m :: ms, k :: ks, acc => if k ∈ QJ m.c m.m then jnF ms ks (acc ++ YY m k ++ (if k < 4 then [10] else [])) else ([], 1)
  | _, _, acc => (acc, 0)
def jnX (ms : List Img) (ks : List Int) : List Int × Int := if ms.length = ks.length then jnF ms ks [] else ([], 1)
theorem jnF_nil (ks acc : List Int) : jnF [] ks acc = (acc, 0) := by cases ks <;> rfl
theorem jnF_at {ms : List Img} {ks : List Int} {k : Nat} (h : k < ms.length) (h2 : k < ks.length) (acc : List Int) : jnF (ms.drop k) (ks.drop k) acc = if ks[k] ∈ QJ ms[k].c ms[k].m then jnF (ms.drop (k + 1)) (ks.drop (k + 1)) (acc ++ YY ms[k] ks[k] ++ (if ks[k] < 4 then [10] else [])) else ([], 1) := by
  rw [List.drop_eq_getElem_cons h, List.drop_eq_getElem_cons h2]
  rfl
theorem jnF_good : ∀ {ms : List Img} {ks : List Int} (acc : List Int), KindsOk ms ks → jnF ms ks acc = (acc ++ YR ms ks, 0)
  | [], [], acc, _ => by simp [jnF, YR]
  | m :: ms, k :: ks, acc, ⟨h1, h2⟩ => by
    rw [jnF, if_pos h1, jnF_good _ h2, YR]
    simp only [List.append_assoc]
theorem jnX_good {ms : List Img} {ks : List Int} (h : KindsOk ms ks) : jnX ms ks = (YR ms ks, 0) := by
  rw [jnX, if_pos h.len, jnF_good _ h]; rfl
theorem jnX_dr {ms : List Img} {k : Nat} (h : ms.length = k) (ks acc : List Int) : jnF (ms.drop k) ks acc = (acc, 0) := by
  rw [List.drop_of_length_le (by omega), jnF_nil]
/-- Images told with blanks ahead of each, and one behind. -/
def wdF (sep : Int) : List Img → List Int → List Int → List Int
  | m :: ms, k :: ks, acc => wdF sep ms ks (acc ++ [sep, 32] ++ YY m k)
  | _, _, acc => acc
theorem wdF_nil (sep : Int) (ks acc : List Int) : wdF sep [] ks acc = acc := by cases ks <;> rfl
theorem wdF_at (sep : Int) {ms : List Img} {ks : List Int} {k : Nat} (h : k < ms.length) (h2 : k < ks.length) (acc : List Int) : wdF sep (ms.drop k) (ks.drop k) acc = wdF sep (ms.drop (k + 1)) (ks.drop (k + 1)) (acc ++ [sep, 32] ++ YY ms[k] ks[k]) := by
  rw [List.drop_eq_getElem_cons h, List.drop_eq_getElem_cons h2]
  rfl
theorem wdF_dr (sep : Int) {ms : List Img} {k : Nat} (h : ms.length = k) (ks acc : List Int) : wdF sep (ms.drop k) ks acc = acc := by
  rw [List.drop_of_length_le (by omega), wdF_nil]
theorem wdF_run {most : Int} (hmo : most ≤ 100) {sep : Int} (hs : Q6 sep = true) : ∀ {ms : List Img} {ks : List Int} (acc : List Int), KindsOk ms ks → (∀ m ∈ ms, YG most m) → ∀ (s0 : PS) (hd : Option HS) (t i : Int) (es0 : List (Evt × Int)) (M : List Img), hdE hd → ImP es0 M → QL 4096 65536 65535 s0 acc = (idP hd t i, es0) → ∃ hd' t' i' es, hdE hd' ∧ ImP es (M ++ ms) ∧ QL 4096 65536 65535 s0 (wdF sep ms ks acc) = (idP hd' t' i', es)
  | [], [], acc, _, _, s0, hd, t, i, es0, M, he, hi, hr => ⟨hd, t, i, es0, he, by rw [List.append_nil]; exact hi, by rw [wdF_nil]; exact hr⟩
  | m :: ms, k :: ks, acc, ⟨h1, h2⟩, hg, s0, hd, t, i, es0, M, he, hi, hr => by
    obtain ⟨hd1, e1, q1, q2, q3⟩ := img_run hmo (hg m (List.mem_cons_self ..)) h1 hd (t + ([sep, 32] : List Int).length) i
    have hb : ∀ c ∈ ([sep, 32] : List Int), Q6 c = true := by
      intro c hc
      simp only [List.mem_cons, List.not_mem_nil, or_false] at hc
      rcases hc with rfl | rfl
      · exact hs
      · rfl
    have hr2 : QL 4096 65536 65535 s0 (acc ++ [sep, 32] ++ YY m k) = (idP hd1 (t + ([sep, 32] : List Int).length + (YY m k).length) (i + 1), es0 ++ e1) := by
      rw [List.append_assoc, YT, hr]
      dsimp only
      rw [YT, run_blanks _ _ _ hb]
      dsimp only
      rw [q3]
      rfl
    have := wdF_run hmo hs (acc ++ [sep, 32] ++ YY m k) h2 (fun x hx => hg x (List.mem_cons_of_mem _ hx)) s0 hd1 _ _ _ (M ++ [m]) q1 (ImP.app hi q2) hr2
    rw [List.append_assoc] at this
    exact this
/-- All of a stream whose run ends between images. -/
theorem all_run {bs : List Int} {hd : Option HS} {t i : Int} {es : List (Evt × Int)} {ms : List Img} (he : hdE hd) (hi : ImP es ms) (h : QL (QP 4096) (QR 65536) (QS 65535) ps0 bs = (idP hd t i, es)) : (Y7 (QP 4096) (QR 65536) (QS 65535) true bs).1.e = 0 ∧ imsO (Y7 (QP 4096) (QR 65536) (QS 65535) true bs).2 = ms := by
  unfold Y7 psFin
  rw [if_pos rfl, h]
  dsimp only
  rw [psEnd_ah he]
  exact ⟨rfl, by rw [List.map_nil, List.append_nil]; exact hi.all⟩
theorem join_all {most : Int} (hmo : most ≤ 100) {ms : List Img} {ks : List Int} (h : KindsOk ms ks) (hg : ∀ m ∈ ms, YG most m) : (Y7 (QP 4096) (QR 65536) (QS 65535) true (YR ms ks)).1.e = 0 ∧ imsO (Y7 (QP 4096) (QR 65536) (QS 65535) true (YR ms ks)).2 = ms := by
  obtain ⟨hd', es, h1, h2, h3⟩ := join_runL hmo h hg none 0 0 (fun _ h => by cases h)
  exact all_run h1 h2 h3
theorem wide_all {most : Int} (hmo : most ≤ 100) {sep : Int} (hs : Q6 sep = true) {ms : List Img} {ks : List Int} (h : KindsOk ms ks) (hg : ∀ m ∈ ms, YG most m) : (Y7 (QP 4096) (QR 65536) (QS 65535) true (wdF sep ms ks [] ++ [sep])).1.e = 0 ∧ imsO (Y7 (QP 4096) (QR 65536) (QS 65535) true (wdF sep ms ks [] ++ [sep])).2 = ms := by
  obtain ⟨hd', t, i, es, h1, h2, h3⟩ := wdF_run hmo hs [] h hg ps0 none 0 0 [] [] (fun _ h => by cases h) ImP.nil rfl
  refine all_run (hd := hd') (t := t + 1) (i := i) (es := es) h1 h2 ?_
  rw [Z0.1, Z0.2.1, Z0.2.2, YT, h3]
  dsimp only
  rw [run_blank _ _ _ hs]
  simp [QL, Ye]
theorem wdF_bd {most : Int} (hmo : most ≤ 100) {sep : Int} (hs : 0 ≤ sep ∧ sep ≤ 255) : ∀ {ms : List Img} {ks : List Int} (acc : List Int), KindsOk ms ks → (∀ m ∈ ms, YG most m) → (∀ b ∈ acc, 0 ≤ b ∧ b ≤ 255) → (∀ b ∈ wdF sep ms ks acc, 0 ≤ b ∧ b ≤ 255) ∧ (wdF sep ms ks acc).length ≤ acc.length + ms.length * 3000002
  | [], [], acc, _, _, h => by rw [wdF_nil]; exact ⟨h, by simp⟩
  | m :: ms, k :: ks, acc, ⟨h1, h2⟩, hg, h => by
    have hw := wrI_len hmo (hg m (List.mem_cons_self ..)) h1
    have hwb := wrI_byte hmo (hg m (List.mem_cons_self ..)) h1
    have := wdF_bd hmo hs (acc ++ [sep, 32] ++ YY m k) h2 (fun x hx => hg x (List.mem_cons_of_mem _ hx)) (by
      intro b hb
      rcases List.mem_append.1 hb with hb | hb
      · rcases List.mem_append.1 hb with hb | hb
        · exact h b hb
        · simp only [List.mem_cons, List.not_mem_nil, or_false] at hb
          rcases hb with rfl | rfl
          · exact hs
          · decide
      · exact hwb b hb)
    rw [wdF]
    refine ⟨this.1, ?_⟩
    have h3 := this.2
    simp only [List.length_append, List.length_cons, List.length_nil] at h3 ⊢
    omega
section
variable {P : Program} {n : Cx} {D : List Deferred} {ops : Array Oper} {rest : List Oper} {Q : Post} {fr : Fr} {l : List HP}
theorem own_le {T s c m : Nat} {a : Option Addr} {xs : List Value} {w : World} {S : Nat → Prop} (hp : (QG T s a c m xs).p w S) : m ≤ c := by
  rcases XM hp with ⟨_, h1, h2, _⟩ | ⟨g, cur, e, _, hmc, _⟩
  · omega
  · exact hmc
theorem WpL.manyLe {α : Type} {T : Nat} {row : α → List Int} {L : List (α × Option Addr × Nat)} (he : Ent l [YO (L.map fun r => QG T 1 r.2.1 r.2.2 (row r.1).length (Xp (row r.1)))]) (k : (∀ r ∈ L, (row r.1).length ≤ r.2.2) → WpL P n D ops rest Q fr l) : WpL P n D ops rest Q fr l := fun A w U hh hs =>
  k (fun r hr => by
    obtain ⟨S, hp, _⟩ := (he.trans (many_mem (List.mem_map_of_mem hr))) w U hs
    exact own_le hp) A w U hh hs
end

end Go.Proofs.YtggamdlpiejbiaaGreat
namespace Go.Proofs.YtggamdlpiejbiaaGreat
open Go.RowKit Go.Shelf

theorem rWrite10n_spec (A0 : HP) (C M W H : Int) (a : Option Addr) (c : Nat) (px : List Int) (hA : RdsL [A0] a (Xp px)) (hb : ∀ p ∈ px, 0 ≤ p ∧ p < 18446744073709551616) (hl : px.length ≤ 9223372036854775807) (k : Int) (hT : ¬ (k ∈ QJ C M ∧ Yq C M W H px)) : Fn Tryz.prog 34 #[.agg #[.int .i64 C, .int .i64 M, .int .i64 W, .int .i64 H, .slice a px.length c], .int .i64 k] [A0] (fun v l => v = .tuple #[.slice none 0 0, .int .i64 1] ∧ l = [A0]) := by
 refine Qk (vs := [.agg #[.int .i64 C, .int .i64 M, .int .i64 W, .int .i64 H, .slice a px.length c], .int .i64 k]) Tryz.func34 rfl Tryz.ntmps34 rfl (Qb (Qa (Q9 rfl rfl rfl ?_)))
 intro g1
 refine Qe rfl rfl (Qe rfl rfl (WpL.nil (Qb (Qa ?_))))
 refine QI (vs := [_, _, _, _, _]) rfl rfl rfl (by rfl) ?_
 refine Qc rfl rfl (Qh rfl rfl (by repeat' constructor) (rTells_spec [A0] C M W H a c px hA hb (by omega) k) ?_)
 rintro _ _ ⟨rfl, rfl⟩
 simp only [Qr]
 rw [decide_eq_false hT]
 refine Qe rfl rfl (WpL.nil (Qb (Qb (Qa (Qc rfl rfl (Zq rfl rfl (WpL.nil (Xc rfl (Qb (Qa (Qe rfl rfl (Qe rfl rfl ?_))))))))))))
 refine WpL.nil (Qi ?_)
 apply RetQ.mk
 ·exact (QB rfl rfl rfl)
 ·exact ⟨rfl, rfl⟩
 ·exact Take.ent' (by repeat' constructor)

end Go.Proofs.YtggamdlpiejbiaaGreat
