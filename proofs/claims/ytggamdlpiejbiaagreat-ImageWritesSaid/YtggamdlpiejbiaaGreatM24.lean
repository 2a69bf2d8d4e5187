/- Walks and plain laws, a part of the proof of ImageWrites: every input that the law's guards let in, no condition beside. -/
import Derived.Test.YtggamdlpiejbiaaGreatM23
namespace Go.Proofs.YtggamdlpiejbiaaGreat
open Go.RowKit Go.Shelf


theorem hdW_lenH {K W H M : Int} (h : Xt K W H M) : (hdW K W H M).length ≤ 400000 := by
  unfold Xt at h
  have h1 := X9 K.toNat
  have h2 := X9 W.toNat
  have h3 := X9 H.toNat
  have h4 := X9 M.toNat
  unfold hdW
  simp only [List.length_append, List.length_cons, List.length_nil]
  split <;> simp only [List.length_append, List.length_cons, List.length_nil] <;> omega
theorem wrL_lenB {C M W H k : Int} {px : List Int} (h : k ∈ QN C M ∧ XM C M W H px) (_hk : k < 4) : (Y8 k W 0 px).length ≤ 1000000000 := by
  have h1 := (tk_may h).2.2.2
  have h2 := Vd (K := k) (W := W) px 0
  omega

set_option maxHeartbeats 1000000 in
theorem iWriteN_spec (A0 : HP) (C M : Int) (Wn Hn : Nat) (a : Option Addr) (c : Nat) (px : List Int) (hA : RdsL [A0] a (XA px)) (hb : ∀ p ∈ px, 0 ≤ p ∧ p < 18446744073709551616) (hcap : px.length ≤ c) (hpl : px.length ≤ 9223372036854775807) (k : Int) : Fn Tryz.prog 48 #[.agg #[.int .i64 C, .int .i64 M, .int .i64 (Wn : Int), .int .i64 (Hn : Int), .slice a px.length c], .int .i64 k] [A0] (fun v l => (k ∈ QN C M ∧ XM C M (Wn : Int) (Hn : Int) px ∧ ∃ g c2, v = .tuple #[.slice (some ⟨g, 0, none⟩) (ZT ⟨C, M, (Wn : Int), (Hn : Int), px⟩ k).length c2, .int .i64 0] ∧ l = [rdo g (Xh (ZT ⟨C, M, (Wn : Int), (Hn : Int), px⟩ k)), A0]) ∨ (¬ (k ∈ QN C M ∧ XM C M (Wn : Int) (Hn : Int) px) ∧ v = .tuple #[.slice none 0 0, .int .i64 1] ∧ l = [A0])) := by
 refine Ql (vs := [.agg #[.int .i64 C, .int .i64 M, .int .i64 (Wn : Int), .int .i64 (Hn : Int), .slice a px.length c], .int .i64 k]) Tryz.func48 rfl Tryz.ntmps48 rfl (Qb (Qa (QV rfl rfl rfl ?_)))
 intro gI
 refine Qe rfl rfl (Qe rfl rfl (WpL.nil (Qb (Qa ?_))))
 refine QA (vs := [_, _, _, _, _]) rfl rfl rfl (by rfl) ?_
 refine Qc rfl rfl (Qh rfl rfl (by repeat' constructor) (iHead_alt [A0] C M (Wn : Int) (Hn : Int) a c px hA hb hpl k) ?_)
 intro v0 m0 hN0
 rcases hN0 with ⟨hT, rfl, rfl⟩ | ⟨hT, rfl, rfl⟩
 ·simp only [Qr]
  obtain ⟨hMay, hfit, hpl2, hp16⟩ := tk_may hT
  have hM2 := hMay
  unfold Xt at hM2
  refine Qc rfl rfl (QD rfl rfl rfl (QD rfl rfl rfl (XY rfl ?_)))
  intro gH
  refine Xb rfl rfl rfl (by rfl) rfl ?_
  refine Qe rfl rfl (WpL.nil (Qb (Qb (Qa (Qc rfl rfl (Xc rfl rfl rfl (WpL.nil (Qz rfl (fun h => h rfl) ?_))))))))
  refine Wp.skip (Qb (Qa ?_))
  refine QA (vs := [_, _, _, _]) rfl rfl rfl (by rfl) ?_
  refine Qh rfl rfl (by repeat' constructor) (hWrite_spec _ _ _ _ hMay) ?_
  rintro _ _ ⟨s6, hs6, rfl, rfl⟩
  simp only [Qr]
  have hz6 := hdW_lenH hMay
  have hs6z : s6.size ≤ 400000 := by rw [← Xj, hs6]; exact hz6
  refine Qc rfl rfl (QD rfl rfl rfl (QD rfl rfl rfl (Qe rfl rfl (Qe rfl rfl (WpL.nil (Qb (Qa (s_mkf rfl (fun a hh => XR hh _ _ rfl) ?_))))))))
  refine Qe rfl rfl (WpL.nil (Qb (Qb (Qa ?_))))
  refine QA (vs := [_, _, _, _]) rfl rfl rfl (by rfl) ?_
  refine Qh rfl rfl (by repeat' constructor) (YX _ _ _ _) ?_
  rintro _ _ ⟨rfl, rfl⟩
  simp only [Qr]
  refine WpL.nil (Qk rfl (fun h1 => ?_) (fun h1 => ?_))
  ·refine Qa (s_mkf rfl (fun a hh => XR hh _ _ rfl) ?_)
   refine Qe rfl rfl (WpL.nil (Qb (Qa (Qc rfl rfl (s_t2bc rfl Tryz.underlying9 Tryz.underlying22 Tryz.underlying5 rfl ?_)))))
   intro g30 c30
   rw [hs6]
   refine Qc rfl rfl (XT (u := []) (c := [.pointer (some ⟨gI, 0, none⟩), .pointer (some ⟨gH, 0, none⟩)]) rfl rfl rfl rfl (by repeat' constructor) (iWrR_spec A0 gI gH C M k Wn Hn a c px hA hb hcap hT (by omega)) ?_)
   rintro _ _ ⟨a9, c9, rfl, hz9, rfl⟩
   simp only [Qr]
   (refine s_appC rfl rfl rfl (by repeat' constructor) (QR (T := 5) (s := 1) (c := c9) (m := (Q5 k Wn (Qg M) px Hn).length)) (by exact Take.ent' (by repeat' constructor)) (QY _) (QY _) (by rfl) (YW _) (by omega) (by omega) ?_; intro g33 c33; rw [Vc, ← List.length_append, show hdW k (Wn : Int) (Hn : Int) M ++ (Q5 k Wn (Qg M) px Hn) = (ZT ⟨C, M, (Wn : Int), (Hn : Int), px⟩ k) from (by unfold ZT; rw [if_neg (by omega)]; rfl)])
   refine Qe rfl rfl (Qe rfl rfl (WpL.nil (Qi ?_)))
   apply RetQ.mk
   ·exact (QC rfl rfl rfl)
   ·exact .inl ⟨hT.1, hT.2, g33, c33, rfl, rfl⟩
   ·exact Take.ent' (by repeat' constructor)
  ·refine Wp.skip (Qb (Qa (Qc rfl rfl (s_t2bc rfl Tryz.underlying9 Tryz.underlying22 Tryz.underlying5 rfl ?_))))
   intro g30 c30
   rw [hs6]
   refine Qc rfl rfl (XT (u := []) (c := [.pointer (some ⟨gI, 0, none⟩), .pointer (some ⟨gH, 0, none⟩)]) rfl rfl rfl rfl (by repeat' constructor) (iWrP_spec A0 gI gH C M k Wn Hn a c px hA hb hcap hT (by omega)) ?_)
   rintro _ _ ⟨gB, cB, rfl, rfl⟩
   simp only [Qr]
   (have hz8 := wrL_lenB hT (by omega); refine s_appC rfl rfl rfl (by repeat' constructor) (RdsL.rdo (g := gB) (xs := Xh (Y8 k (Wn : Int) 0 px))) (by exact Take.ent' (by repeat' constructor)) (QY _) (QY _) (by rfl) (YW _) (by omega) (by omega) ?_; intro g33 c33; rw [Vc, ← List.length_append, show hdW k (Wn : Int) (Hn : Int) M ++ (Y8 k (Wn : Int) 0 px) = (ZT ⟨C, M, (Wn : Int), (Hn : Int), px⟩ k) from (by unfold ZT; rw [if_pos (by omega)])])
   refine Qe rfl rfl (Qe rfl rfl (WpL.nil (Qi ?_)))
   apply RetQ.mk
   ·exact (QC rfl rfl rfl)
   ·exact .inl ⟨hT.1, hT.2, g33, c33, rfl, rfl⟩
   ·exact Take.ent' (by repeat' constructor)
 ·simp only [Qr]
  refine Qc rfl rfl (QD rfl rfl rfl (QD rfl rfl rfl (XY rfl ?_)))
  intro gH
  refine Xb rfl rfl rfl (by rfl) rfl ?_
  refine Qe rfl rfl (WpL.nil (Qb (Qb (Qa (Qc rfl rfl (Xc rfl rfl rfl (WpL.nil (QM rfl (by decide) (Qb (Qa (Qc rfl rfl (Qe rfl rfl ?_))))))))))))
  refine Qe rfl rfl (WpL.nil (Qi ?_))
  apply RetQ.mk
  ·exact (QC rfl rfl rfl)
  ·exact .inr ⟨hT, rfl, rfl⟩
  ·exact Take.ent' (by repeat' constructor)

end Go.Proofs.YtggamdlpiejbiaaGreat
namespace Go.Proofs.YtggamdlpiejbiaaGreat
open Go.RowKit Go.Shelf


theorem hdRun_inv (l0 l1 l2 : Int) (hL : LimO l0 l1 l2) : ∀ (bs : List Int) (h : HS) (n : Int), hdJ l0 l1 l2 h → ((XD l0 l1 l2 h bs n).1.last = 1 → ZW (XD l0 l1 l2 h bs n).1) ∧ ((XD l0 l1 l2 h bs n).1.last = 2 → HdBad (XD l0 l1 l2 h bs n).1) ∧ ((XD l0 l1 l2 h bs n).1.last = 0 ∨ (XD l0 l1 l2 h bs n).1.last = 1 ∨ (XD l0 l1 l2 h bs n).1.last = 2) ∧ n ≤ (XD l0 l1 l2 h bs n).2 ∧ (XD l0 l1 l2 h bs n).2 ≤ n + bs.length
  | [], h, n, hj => by
    have := hj.1.1
    refine ⟨fun q => ?_, fun q => ?_, .inl this, ?_, ?_⟩
    · exact absurd (this.symm.trans q) (by decide)
    · exact absurd (this.symm.trans q) (by decide)
    · simp [XD]
    · simp [XD]
  | c :: bs, h, n, hj => by
    rcases hdPut_ok (c := c) hL hj with q | q | q
    · have h0 := q.1.1
      rw [Yx _ _ _ h0]
      have ih := hdRun_inv l0 l1 l2 hL bs _ (n + 1) q
      refine ⟨ih.1, ih.2.1, ih.2.2.1, by omega, by rw [List.length_cons]; push_cast; omega⟩
    · have h0 := q.1
      rw [ZJ _ _ _ (by rw [h0]; decide)]
      exact ⟨fun z => absurd (h0.symm.trans z) (by decide), fun _ => q, .inr (.inr h0), by simp only; omega, by simp only [List.length_cons]; push_cast; omega⟩
    · have h0 := q.1
      rw [ZJ _ _ _ (by rw [h0]; decide)]
      exact ⟨fun _ => q, fun z => absurd (h0.symm.trans z) (by decide), .inr (.inl h0), by simp only; omega, by simp only [List.length_cons]; push_cast; omega⟩
theorem hdP_ok (l0 l1 l2 : Int) (hL : LimO l0 l1 l2) (bs : List Int) : ((X1 l0 l1 l2 bs).2.2 = 0 → Xt (X1 l0 l1 l2 bs).1.1 (X1 l0 l1 l2 bs).1.2.1 (X1 l0 l1 l2 bs).1.2.2.1 (X1 l0 l1 l2 bs).1.2.2.2) ∧ 0 ≤ (X1 l0 l1 l2 bs).2.1 ∧ (X1 l0 l1 l2 bs).2.1 ≤ bs.length ∧ ((X1 l0 l1 l2 bs).2.2 ≠ 0 → (X1 l0 l1 l2 bs).1 = (0, 0, 0, 0)) := by
  have q := hdRun_inv l0 l1 l2 hL bs hd0 0 (hdJ0 l0 l1 l2)
  rw [hdP_fin]
  unfold hdFin
  by_cases h1 : (XD l0 l1 l2 hd0 bs 0).1.last = 1
  · rw [if_pos h1]
    exact ⟨fun _ => (q.1 h1).2.2, by simp only; omega, by simp only; omega, fun z => absurd rfl z⟩
  · rw [if_neg h1]
    by_cases h2 : (XD l0 l1 l2 hd0 bs 0).1.last = 2
    · rw [if_pos h2]
      have hb := q.2.1 h2
      unfold HdBad at hb
      exact ⟨fun z => by simp only at z; omega, by simp only; omega, by simp only; omega, fun _ => rfl⟩
    · rw [if_neg h2]
      exact ⟨fun z => by simp at z, by simp, by simp, fun _ => rfl⟩

theorem SizeN_spec (K W H M : Int) (hK : 1 ≤ K ∧ K < 4) : Fn Tryz.prog 75 #[.agg #[.int .i64 K, .int .i64 W, .int .i64 H, .int .i64 M]] [] (fun v l => v = .int .i64 0 ∧ l = []) := by
 refine Ql (vs := [.agg #[.int .i64 K, .int .i64 W, .int .i64 H, .int .i64 M]]) Tryz.func75 rfl Tryz.ntmps75 rfl (Qb (Qa (QV rfl rfl rfl ?_)))
 intro g1
 refine Qe rfl rfl (WpL.nil (Qb (Wp.block ?_)))
 refine Qb (Qa ?_)
 refine QA (vs := [_, _, _, _]) rfl rfl rfl (by rfl) ?_
 refine Qh rfl rfl (by repeat' constructor) (YX _ _ _ _) ?_
 rintro _ _ ⟨rfl, rfl⟩
 simp only [Qr]
 refine XH rfl rfl (Qe rfl rfl (WpL.nil (QM rfl (fun q => by omega) ?_)))
 refine Qb (Qa (Qe rfl rfl (WpL.nil (Qi ?_))))
 apply RetQ.mk
 ·exact (Res.one rfl rfl)
 ·exact ⟨rfl, rfl⟩
 ·exact Ent.nil _


theorem SizeA_spec (K : Int) (W H : Nat) (M : Int) (hM : Xt K (W : Int) (H : Int) M) : Fn Tryz.prog 75 #[.agg #[.int .i64 K, .int .i64 (W : Int), .int .i64 (H : Int), .int .i64 M]] [] (fun v l => v = .int .i64 (if 4 ≤ K then ((QF K W (Qg M) * H : Nat) : Int) else 0) ∧ l = []) := by
  have hM2 := hM
  unfold Xt at hM2
  by_cases h : 4 ≤ K
  · rw [if_pos h]
    exact Size_spec K W H M ⟨hM, by omega⟩
  · rw [if_neg h]
    exact SizeN_spec K W H M (by omega)
theorem readL_i {K W H M : Int} : ∀ (bs : List Int) (i : Int) (s : RS) (acc : List Int), 0 ≤ i → 0 ≤ (Yi K W H M bs i s acc).2.1 ∧ (Yi K W H M bs i s acc).2.1 ≤ i + bs.length
  | [], i, s, acc, h => by
    unfold Yi
    split
    · refine ⟨Int.le_refl _, ?_⟩; show (0 : Int) ≤ i + ((0 : Nat) : Int); omega
    · refine ⟨h, ?_⟩; show i ≤ i + ((0 : Nat) : Int); omega
  | c :: bs, i, s, acc, h => by
    unfold Yi
    split
    · exact ⟨by show (0 : Int) ≤ i + 1; omega, by show i + 1 ≤ i + ((bs.length + 1 : Nat) : Int); omega⟩
    · split
      · exact ⟨Int.le_refl _, by show (0 : Int) ≤ i + ((bs.length + 1 : Nat) : Int); omega⟩
      · have := readL_i (K := K) (W := W) (H := H) (M := M) bs (i + 1) (XL K W H M s c).1 (acc ++ (XL K W H M s c).2) (by omega)
        simp only [List.length_cons]; push_cast; omega
theorem readS_i {K W H M : Int} (bs : List Int) : 0 ≤ (Zo K W H M bs).2.1 ∧ (Zo K W H M bs).2.1 ≤ bs.length := by
  unfold Zo
  split
  · have := readL_i (K := K) (W := W) (H := H) (M := M) bs 0 s0R [] (by omega); omega
  · simp
/-- The image that bytes begin with, how many bytes it has, the error. -/
def YJ (l0 l1 l2 : Int) (bs : List Int) : Img × Int × Int :=
  if (X1 l0 l1 l2 bs).2.2 ≠ 0 then (im0, 0, (X1 l0 l1 l2 bs).2.2) else
  if 4 ≤ (X1 l0 l1 l2 bs).1.1 then
    (if (rawF (X1 l0 l1 l2 bs).1.1 (X1 l0 l1 l2 bs).1.2.1.toNat (X1 l0 l1 l2 bs).1.2.2.1.toNat (X1 l0 l1 l2 bs).1.2.2.2 (bs.drop (X1 l0 l1 l2 bs).2.1.toNat)).2 ≠ 0 then (im0, 0, (rawF (X1 l0 l1 l2 bs).1.1 (X1 l0 l1 l2 bs).1.2.1.toNat (X1 l0 l1 l2 bs).1.2.2.1.toNat (X1 l0 l1 l2 bs).1.2.2.2 (bs.drop (X1 l0 l1 l2 bs).2.1.toNat)).2) else
      (⟨QO (X1 l0 l1 l2 bs).1.1, (X1 l0 l1 l2 bs).1.2.2.2, (X1 l0 l1 l2 bs).1.2.1, (X1 l0 l1 l2 bs).1.2.2.1, (rawF (X1 l0 l1 l2 bs).1.1 (X1 l0 l1 l2 bs).1.2.1.toNat (X1 l0 l1 l2 bs).1.2.2.1.toNat (X1 l0 l1 l2 bs).1.2.2.2 (bs.drop (X1 l0 l1 l2 bs).2.1.toNat)).1⟩, (X1 l0 l1 l2 bs).2.1 + ((QF (X1 l0 l1 l2 bs).1.1 (X1 l0 l1 l2 bs).1.2.1.toNat (Qg (X1 l0 l1 l2 bs).1.2.2.2) * (X1 l0 l1 l2 bs).1.2.2.1.toNat : Nat) : Int), 0))
  else
    (if (Zo (X1 l0 l1 l2 bs).1.1 (X1 l0 l1 l2 bs).1.2.1 (X1 l0 l1 l2 bs).1.2.2.1 (X1 l0 l1 l2 bs).1.2.2.2 (bs.drop (X1 l0 l1 l2 bs).2.1.toNat)).2.2 ≠ 0 then (im0, 0, (Zo (X1 l0 l1 l2 bs).1.1 (X1 l0 l1 l2 bs).1.2.1 (X1 l0 l1 l2 bs).1.2.2.1 (X1 l0 l1 l2 bs).1.2.2.2 (bs.drop (X1 l0 l1 l2 bs).2.1.toNat)).2.2) else
      (⟨QO (X1 l0 l1 l2 bs).1.1, (X1 l0 l1 l2 bs).1.2.2.2, (X1 l0 l1 l2 bs).1.2.1, (X1 l0 l1 l2 bs).1.2.2.1, (Zo (X1 l0 l1 l2 bs).1.1 (X1 l0 l1 l2 bs).1.2.1 (X1 l0 l1 l2 bs).1.2.2.1 (X1 l0 l1 l2 bs).1.2.2.2 (bs.drop (X1 l0 l1 l2 bs).2.1.toNat)).1⟩, (X1 l0 l1 l2 bs).2.1 + (Zo (X1 l0 l1 l2 bs).1.1 (X1 l0 l1 l2 bs).1.2.1 (X1 l0 l1 l2 bs).1.2.2.1 (X1 l0 l1 l2 bs).1.2.2.2 (bs.drop (X1 l0 l1 l2 bs).2.1.toNat)).2.1, 0))
section
variable {l0 l1 l2 : Int} {bs : List Int} {K W H M n e : Int}
theorem parF_e (h : X1 l0 l1 l2 bs = ((K, W, H, M), n, e)) (he : e ≠ 0) : YJ l0 l1 l2 bs = (im0, 0, e) := by unfold YJ; rw [h]; exact if_pos he
theorem parF_re (h : X1 l0 l1 l2 bs = ((K, W, H, M), n, 0)) (h4 : 4 ≤ K) {out : List Int} {x : Int} (hr : rawF K W.toNat H.toNat M (bs.drop n.toNat) = (out, x)) (hx : x ≠ 0) : YJ l0 l1 l2 bs = (im0, 0, x) := by
  unfold YJ; rw [h]; dsimp only; rw [if_neg (fun q => q rfl), if_pos h4, hr]; exact if_pos hx
theorem parF_r (h : X1 l0 l1 l2 bs = ((K, W, H, M), n, 0)) (h4 : 4 ≤ K) {out : List Int} (hr : rawF K W.toNat H.toNat M (bs.drop n.toNat) = (out, 0)) : YJ l0 l1 l2 bs = (⟨QO K, M, W, H, out⟩, n + ((QF K W.toNat (Qg M) * H.toNat : Nat) : Int), 0) := by
  unfold YJ; rw [h]; dsimp only; rw [if_neg (fun q => q rfl), if_pos h4, hr]; exact if_neg (fun q => q rfl)
theorem parF_pe (h : X1 l0 l1 l2 bs = ((K, W, H, M), n, 0)) (h4 : ¬ 4 ≤ K) {out : List Int} {i x : Int} (hr : Zo K W H M (bs.drop n.toNat) = (out, i, x)) (hx : x ≠ 0) : YJ l0 l1 l2 bs = (im0, 0, x) := by
  unfold YJ; rw [h]; dsimp only; rw [if_neg (fun q => q rfl), if_neg h4, hr]; exact if_pos hx
theorem parF_p (h : X1 l0 l1 l2 bs = ((K, W, H, M), n, 0)) (h4 : ¬ 4 ≤ K) {out : List Int} {i : Int} (hr : Zo K W H M (bs.drop n.toNat) = (out, i, 0)) : YJ l0 l1 l2 bs = (⟨QO K, M, W, H, out⟩, n + i, 0) := by
  unfold YJ; rw [h]; dsimp only; rw [if_neg (fun q => q rfl), if_neg h4, hr]; exact if_neg (fun q => q rfl)
end
end Go.Proofs.YtggamdlpiejbiaaGreat
namespace Go.Proofs.YtggamdlpiejbiaaGreat
open Go.RowKit Go.Shelf


theorem hParse_alt (a b d : Int) (bs : List Int) (hbs : ∀ x ∈ bs, 0 ≤ x ∧ x ≤ 255) (hl : bs.length ≤ 1000000000) {K W H M n e : Int} (hP : X1 (XE a) (XF b) (XG d) bs = ((K, W, H, M), n, e)) : Fn Tryz.prog 74 #[.string (strOfNums bs), .agg #[.int .i64 a, .int .i64 b, .int .i64 d]] [] (fun v l => (e = 0 ∧ v = .tuple #[.agg #[.int .i64 K, .int .i64 W, .int .i64 H, .int .i64 M], .int .i64 n, .int .i64 0] ∧ l = []) ∨ (e ≠ 0 ∧ v = .tuple #[.agg #[.int .i64 0, .int .i64 0, .int .i64 0, .int .i64 0], .int .i64 0, .int .i64 e] ∧ l = [])) := by
  refine (hParse_spec a b d (strOfNums bs) (by rw [YB]; omega)).mono ?_
  rintro v l ⟨rfl, rfl⟩
  rw [Yk hbs, hP]
  by_cases he : e = 0
  · exact ⟨_, .inl ⟨he, if_pos he, rfl⟩, Ent.refl _⟩
  · exact ⟨_, .inr ⟨he, if_neg he, rfl⟩, Ent.refl _⟩
set_option maxHeartbeats 1000000 in
theorem iParse_spec (A0 : HP) (a0 : Option Addr) (c0 : Nat) (bs : List Int) (hA : RdsL [A0] a0 (Xh bs)) (hbs : ∀ x ∈ bs, 0 ≤ x ∧ x ≤ 255) (hc0 : bs.length ≤ c0) (hbl : bs.length ≤ 1000000000) (a b d : Int) : Fn Tryz.prog 38 #[.slice a0 bs.length c0, .agg #[.int .i64 a, .int .i64 b, .int .i64 d]] [A0] (fun v l => ∃ aR cR, v = .tuple #[.agg #[.int .i64 (YJ (XE a) (XF b) (XG d) bs).1.c, .int .i64 (YJ (XE a) (XF b) (XG d) bs).1.m, .int .i64 (YJ (XE a) (XF b) (XG d) bs).1.w, .int .i64 (YJ (XE a) (XF b) (XG d) bs).1.h, .slice aR (YJ (XE a) (XF b) (XG d) bs).1.px.length cR], .int .i64 (YJ (XE a) (XF b) (XG d) bs).2.1, .int .i64 (YJ (XE a) (XF b) (XG d) bs).2.2] ∧ l = [QL 92 1 aR cR (YJ (XE a) (XF b) (XG d) bs).1.px.length (XA (YJ (XE a) (XF b) (XG d) bs).1.px), A0]) := by
 obtain ⟨⟨⟨K, W, H, M⟩, n, e⟩, hPd⟩ : ∃ P, X1 (XE a) (XF b) (XG d) bs = P := ⟨_, rfl⟩
 have hok := hdP_ok (XE a) (XF b) (XG d) (lim_o a b d) bs
 rw [hPd] at hok
 dsimp only at hok
 obtain ⟨nn, rfl⟩ := Int.eq_ofNat_of_zero_le hok.2.1
 have hnl : nn ≤ bs.length := by omega
 have hAy : RdsL [A0] (sla a0 nn c0 1) (Xh (bs.drop nn)) := by have q := hA.sla nn bs.length c0 1 hc0; rwa [u8s_from] at q
 have hbd : ∀ x ∈ bs.drop nn, 0 ≤ x ∧ x ≤ 255 := fun x hx => hbs x (List.mem_of_mem_drop hx)
 have hdl : (bs.drop nn).length = bs.length - nn := List.length_drop
 refine Ql (vs := [.slice a0 bs.length c0, .agg #[.int .i64 a, .int .i64 b, .int .i64 d]]) Tryz.func38 rfl Tryz.ntmps38 rfl (Qb (Qa (QV rfl rfl rfl ?_)))
 intro gB
 refine XY rfl ?_
 intro gM
 refine Qe rfl rfl (Qe rfl rfl (WpL.nil (Qb (Qa (Qc rfl rfl (s_b2sR rfl Tryz.underlying22 Tryz.underlying5 Tryz.underlying9 rfl hA (by exact Take.ent' (by repeat' constructor)) rfl ?_))))))
 refine QA (vs := [_, _, _]) rfl rfl rfl (by rfl) ?_
 refine Qh rfl rfl (by repeat' constructor) (hParse_alt a b d bs hbs hbl hPd) ?_
 intro v0 m0 hN0
 rcases hN0 with ⟨hE, rfl, rfl⟩ | ⟨hE, rfl, rfl⟩
 ·simp only [Qr]
  subst hE
  have hMay := hok.1 rfl
  have hM2 := hMay
  unfold Xt at hM2
  obtain ⟨Wn, rfl⟩ := Int.eq_ofNat_of_zero_le (show 0 ≤ W by omega)
  obtain ⟨Hn, rfl⟩ := Int.eq_ofNat_of_zero_le (show 0 ≤ H by omega)
  have hsb := XO (K := K) (W := Wn) (QX M) (by omega) (by omega)
  have hsz : QF K Wn (Qg M) * Hn ≤ 24576 * 65536 := Nat.mul_le_mul hsb.2 (by omega)
  refine Qc rfl rfl (QD rfl rfl rfl (QD rfl rfl rfl (QD rfl rfl rfl (XY rfl ?_))))
  intro gH
  refine Xb rfl rfl rfl (by rfl) rfl ?_
  refine Qe rfl rfl (Qe rfl rfl (WpL.nil (Qb (Qb (Qa (Qc rfl rfl (Xc rfl rfl rfl (WpL.nil (Qz rfl (fun h => h rfl) ?_)))))))))
  refine Wp.skip (Qb (Qa (Qe rfl rfl (WpL.nil (Qb (Qa ?_))))))
  refine QA (vs := [_, _, _, _]) rfl rfl rfl (by rfl) ?_
  refine Qh rfl rfl (by repeat' constructor) (SizeA_spec K Wn Hn M hMay) ?_
  rintro _ _ ⟨rfl, rfl⟩
  simp only [Qr]
  refine Qe rfl rfl (WpL.nil (Qb (Qb (Qa ?_))))
  refine QA (vs := [_, _, _, _]) rfl rfl rfl (by rfl) ?_
  refine Qh rfl rfl (by repeat' constructor) (YX _ _ _ _) ?_
  rintro _ _ ⟨rfl, rfl⟩
  simp only [Qr]
  refine WpL.nil (Qk rfl (fun h1 => ?_) (fun h1 => ?_))
  ·rw [if_pos (show 4 ≤ K by omega)]
   apply Xi (fB := []) mixed [(4, false)] (by kernel_rfl)
   apply Xe [⟨0, 29, _, [], false⟩, ⟨1, 30, _, [], false⟩, ⟨2, 31, _, [0, 1], false⟩, ⟨3, 32, _, [], false⟩] [] [0, 1, 2, 3] [28, 34, 35, 10, 9] (.inr rfl) rfl rfl rfl (by kernel_rfl) rfl rfl rfl
   ·refine AllF.cons rfl rfl rfl rfl ?_ ?_
    ·exact Qc rfl rfl (Qn rfl)
    refine AllF.cons rfl rfl rfl rfl ?_ ?_
    ·exact Qc rfl rfl (Qn rfl)
    refine AllF.cons rfl rfl rfl rfl ?_ ?_
    ·refine s_sll_l (L := nn) rfl rfl rfl (by omega) (by omega) ?_
     rw [show bs.length - nn = (bs.drop nn).length from List.length_drop.symm]
     exact Qn rfl
    refine AllF.cons rfl rfl rfl rfl ?_ ?_
    ·refine QA (vs := [_, _, _, _]) rfl rfl rfl (by rfl) ?_
     exact Qn rfl
    exact AllF.nil
   ·refine Qh rfl rfl (by repeat' constructor) (RawRead_spec A0 (sla a0 nn c0 1) (c0 - nn) (bs.drop nn) hAy hbd (by omega) K Wn (Hn : Int) M ⟨hMay, by omega⟩) ?_
    rintro _ _ ⟨b0, out, er, a3, c3, hb0, hrd, rfl, rfl⟩
    simp only [Qr]
    have hrf : rawF K Wn Hn M (bs.drop nn) = (out, er) := by
     have q := readW_raw (h := ⟨K, (Wn : Int), (Hn : Int), M, 0, 0, ZU, 1, 0⟩) ⟨rfl, rfl, hMay⟩ (bs.drop nn) b0 (by simpa using hb0) (by rw [hb0]; omega)
     simp only [Int.toNat_natCast] at q
     rw [← q, ← hrd]
    refine WpL.nil ⟨rfl, rfl, ?_⟩
    apply GoR.nil [⟨5, 28, _, [4], false⟩, ⟨6, 34, _, [5], false⟩, ⟨7, 35, _, [5], false⟩, ⟨8, 10, _, [0, 1, 2, 3, 4, 5, 6], false⟩, ⟨9, 9, _, [0, 1, 2, 3, 4, 5, 6, 7, 8], false⟩] (.inr rfl) rfl rfl
    ·refine AllF.cons rfl rfl rfl rfl ?_ ?_
     ·exact Qc rfl rfl (Qn rfl)
     refine AllF.cons rfl rfl rfl rfl ?_ ?_
     ·exact QD rfl rfl rfl (Qn rfl)
     refine AllF.cons rfl rfl rfl rfl ?_ ?_
     ·exact QD rfl rfl rfl (Qn rfl)
     refine AllF.cons rfl rfl rfl rfl ?_ ?_
     ·exact Qe rfl rfl (Qn rfl)
     refine AllF.cons rfl rfl rfl rfl ?_ ?_
     ·exact Qe rfl rfl (Qn rfl)
     exact AllF.nil
    ·refine Qb (Qb (Qa (Qc rfl rfl (Xc rfl rfl rfl (WpL.nil (Qk rfl (fun h2 => ?_) (fun h2 => ?_)))))))
     ·refine Qb (Qa ?_)
      refine Ym rfl rfl ?_
      refine Qc rfl rfl ?_
      refine Xb rfl rfl rfl (by rfl) rfl ?_
      refine Qe rfl rfl (Qe rfl rfl (WpL.nil (Qi ?_)))
      apply RetQ.mk
      ·exact (Yf rfl rfl (by rfl) rfl rfl)
      ·exact ⟨none, 0, by rw [parF_re hPd (by omega) (by simpa using hrf) (by assumption)]; rfl, rfl⟩
      ·rw [parF_re hPd (by omega) (by simpa using hrf) (by assumption)]
       exact Ent.own_nil (Take.ent' (by repeat' constructor))
     ·obtain rfl : er = 0 := Classical.not_not.1 h2
      refine Wp.skip (Qb ?_)
      apply Xi (fB := []) mixed [(12, false)] (by kernel_rfl)
      apply Xe [⟨0, 50, _, [], false⟩, ⟨1, 51, _, [0], false⟩, ⟨2, 52, _, [], false⟩, ⟨3, 53, _, [2], false⟩, ⟨4, 54, _, [], false⟩, ⟨5, 55, _, [4], false⟩, ⟨6, 56, _, [], false⟩, ⟨7, 57, _, [3, 5, 6], false⟩, ⟨8, 58, _, [1, 7], false⟩, ⟨9, 59, _, [], true⟩, ⟨10, 60, _, [], true⟩, ⟨11, 61, _, [9, 10], true⟩] [] [0, 1, 2, 3, 4, 5, 6, 7, 8] [5, 6, 59, 60, 61] (.inl ⟨_, .nil⟩) rfl rfl rfl (by kernel_rfl) rfl rfl rfl
      ·refine AllF.cons rfl rfl rfl rfl ?_ ?_
       ·refine QA (vs := [_, _, _, _]) rfl rfl rfl (by rfl) ?_
        exact Qn rfl
       refine AllF.cons rfl rfl rfl rfl ?_ ?_
       ·refine Qh rfl rfl (by repeat' constructor) (Xx _ _ _ _ (by omega)) ?_
        rintro _ _ ⟨rfl, rfl⟩
        simp only [Qr]
        exact WpL.nil ⟨rfl, rfl, rfl, by exact Ent.refl _⟩
       refine AllF.cons rfl rfl rfl rfl ?_ ?_
       ·exact Qj (o2 := 1) rfl rfl rfl (Qn rfl)
       refine AllF.cons rfl rfl rfl rfl ?_ ?_
       ·refine Qo rfl rfl (by rfl) ?_
        exact Qn rfl
       refine AllF.cons rfl rfl rfl rfl ?_ ?_
       ·exact Qj (o2 := 2) rfl rfl rfl (Qn rfl)
       refine AllF.cons rfl rfl rfl rfl ?_ ?_
       ·refine Qo rfl rfl (by rfl) ?_
        exact Qn rfl
       refine AllF.cons rfl rfl rfl rfl ?_ ?_
       ·exact Qc rfl rfl (Qn rfl)
       refine AllF.cons rfl rfl rfl rfl ?_ ?_
       ·refine Ym rfl rfl ?_
        exact Qn rfl
       refine AllF.cons rfl rfl rfl rfl ?_ ?_
       ·refine Ym rfl rfl ?_
        exact Qn rfl
       refine Xg rfl rfl rfl rfl ?_ ?_
       ·exact Qc rfl rfl (Qn rfl)
       refine Xg rfl rfl rfl rfl ?_ ?_
       ·exact Qc rfl rfl (Qn rfl)
       refine Xg rfl rfl rfl rfl ?_ ?_
       ·refine QE rfl rfl rfl (Qt (by omega) (by omega)) ?_
        exact Qn rfl
       exact AllF.nil
      ·refine Xb rfl rfl rfl (by rfl) rfl ?_
       refine WpL.nil ⟨rfl, rfl, ?_⟩
       apply GoR.nil [⟨13, 5, _, [0, 1, 2, 3, 4, 5, 6, 7, 8, 9, 10, 11, 12], false⟩, ⟨14, 6, _, [0, 1, 2, 3, 4, 5, 6, 7, 8, 9, 10, 11, 12, 13], false⟩] (.inl ⟨_, .nil⟩) rfl rfl
       ·refine AllF.cons rfl rfl rfl rfl ?_ ?_
        ·exact Qe rfl rfl (Qn rfl)
        refine AllF.cons rfl rfl rfl rfl ?_ ?_
        ·exact Qe rfl rfl (Qn rfl)
        exact AllF.nil
       ·refine Qi ?_
        apply RetQ.mk
        ·exact (Yf rfl rfl (by rfl) rfl rfl)
        ·exact ⟨a3, c3, by rw [parF_r (out := out) hPd (by omega) (by simpa using hrf)]; try rfl, rfl⟩
        ·rw [parF_r (out := out) hPd (by omega) (by simpa using hrf)]
         exact Take.ent' (by repeat' constructor)
  ·apply Xi (fB := []) mixed [(5, false)] (by kernel_rfl)
   apply Xe [⟨0, 37, _, [], false⟩, ⟨1, 38, _, [], false⟩, ⟨2, 39, _, [0, 1], false⟩, ⟨3, 40, _, [2], false⟩, ⟨4, 41, _, [], false⟩] [] [0, 1, 2, 3, 4] [36, 43, 44, 45, 10, 11, 9] (.inr rfl) rfl rfl rfl (by kernel_rfl) rfl rfl rfl
   ·refine AllF.cons rfl rfl rfl rfl ?_ ?_
    ·exact Qc rfl rfl (Qn rfl)
    refine AllF.cons rfl rfl rfl rfl ?_ ?_
    ·exact Qc rfl rfl (Qn rfl)
    refine AllF.cons rfl rfl rfl rfl ?_ ?_
    ·refine s_sll_l (L := nn) rfl rfl rfl (by omega) (by omega) ?_
     rw [show bs.length - nn = (bs.drop nn).length from List.length_drop.symm]
     exact Qn rfl
    refine AllF.cons rfl rfl rfl rfl ?_ ?_
    ·refine s_b2sR rfl Tryz.underlying22 Tryz.underlying5 Tryz.underlying9 rfl hAy (by exact Take.ent' (by repeat' constructor)) rfl ?_
     exact Qn rfl
    refine AllF.cons rfl rfl rfl rfl ?_ ?_
    ·refine QA (vs := [_, _, _, _]) rfl rfl rfl (by rfl) ?_
     exact Qn rfl
    exact AllF.nil
   ·refine Qh rfl rfl (by repeat' constructor) (Read_spec (strOfNums (bs.drop nn)) (by rw [YB]; omega) K (Wn : Int) (Hn : Int) M) ?_
    rintro _ _ ⟨out, i, x, a3, c3, hrd, rfl, rfl⟩
    simp only [Qr]
    rw [Yk hbd] at hrd
    have hib := readS_i (K := K) (W := (Wn : Int)) (H := (Hn : Int)) (M := M) (bs.drop nn)
    rw [← hrd] at hib
    dsimp only at hib
    refine WpL.nil ⟨rfl, rfl, ?_⟩
    apply GoR.nil [⟨6, 36, _, [5], false⟩, ⟨7, 43, _, [6], false⟩, ⟨8, 44, _, [6], false⟩, ⟨9, 45, _, [6], false⟩, ⟨10, 10, _, [0, 1, 2, 3, 4, 5, 6, 7], false⟩, ⟨11, 11, _, [0, 1, 2, 3, 4, 5, 6, 7, 8, 10], false⟩, ⟨12, 9, _, [0, 1, 2, 3, 4, 5, 6, 7, 8, 9, 10, 11], false⟩] (.inr rfl) rfl rfl
    ·refine AllF.cons rfl rfl rfl rfl ?_ ?_
     ·exact Qc rfl rfl (Qn rfl)
     refine AllF.cons rfl rfl rfl rfl ?_ ?_
     ·exact QD rfl rfl rfl (Qn rfl)
     refine AllF.cons rfl rfl rfl rfl ?_ ?_
     ·exact QD rfl rfl rfl (Qn rfl)
     refine AllF.cons rfl rfl rfl rfl ?_ ?_
     ·exact QD rfl rfl rfl (Qn rfl)
     refine AllF.cons rfl rfl rfl rfl ?_ ?_
     ·exact Qe rfl rfl (Qn rfl)
     refine AllF.cons rfl rfl rfl rfl ?_ ?_
     ·exact Qe rfl rfl (Qn rfl)
     refine AllF.cons rfl rfl rfl rfl ?_ ?_
     ·exact Qe rfl rfl (Qn rfl)
     exact AllF.nil
    ·refine Qb (Qb (Qa (Qc rfl rfl (Xc rfl rfl rfl (WpL.nil (Qk rfl (fun h2 => ?_) (fun h2 => ?_)))))))
     ·refine Qb (Qa ?_)
      refine Ym rfl rfl ?_
      refine Qc rfl rfl ?_
      refine Xb rfl rfl rfl (by rfl) rfl ?_
      refine Qe rfl rfl (Qe rfl rfl (WpL.nil (Qi ?_)))
      apply RetQ.mk
      ·exact (Yf rfl rfl (by rfl) rfl rfl)
      ·exact ⟨none, 0, by rw [parF_pe hPd (by omega) (by simpa using hrd.symm) (by assumption)]; rfl, rfl⟩
      ·rw [parF_pe hPd (by omega) (by simpa using hrd.symm) (by assumption)]
       exact Ent.own_nil (Take.ent' (by repeat' constructor))
     ·obtain rfl : x = 0 := Classical.not_not.1 h2
      refine Wp.skip (Qb ?_)
      apply Xi (fB := []) mixed [(12, false)] (by kernel_rfl)
      apply Xe [⟨0, 50, _, [], false⟩, ⟨1, 51, _, [0], false⟩, ⟨2, 52, _, [], false⟩, ⟨3, 53, _, [2], false⟩, ⟨4, 54, _, [], false⟩, ⟨5, 55, _, [4], false⟩, ⟨6, 56, _, [], false⟩, ⟨7, 57, _, [3, 5, 6], false⟩, ⟨8, 58, _, [1, 7], false⟩, ⟨9, 59, _, [], true⟩, ⟨10, 60, _, [], true⟩, ⟨11, 61, _, [9, 10], true⟩] [] [0, 1, 2, 3, 4, 5, 6, 7, 8] [5, 6, 59, 60, 61] (.inl ⟨_, .nil⟩) rfl rfl rfl (by kernel_rfl) rfl rfl rfl
      ·refine AllF.cons rfl rfl rfl rfl ?_ ?_
       ·refine QA (vs := [_, _, _, _]) rfl rfl rfl (by rfl) ?_
        exact Qn rfl
       refine AllF.cons rfl rfl rfl rfl ?_ ?_
       ·refine Qh rfl rfl (by repeat' constructor) (Xx _ _ _ _ (by omega)) ?_
        rintro _ _ ⟨rfl, rfl⟩
        simp only [Qr]
        exact WpL.nil ⟨rfl, rfl, rfl, by exact Ent.refl _⟩
       refine AllF.cons rfl rfl rfl rfl ?_ ?_
       ·exact Qj (o2 := 1) rfl rfl rfl (Qn rfl)
       refine AllF.cons rfl rfl rfl rfl ?_ ?_
       ·refine Qo rfl rfl (by rfl) ?_
        exact Qn rfl
       refine AllF.cons rfl rfl rfl rfl ?_ ?_
       ·exact Qj (o2 := 2) rfl rfl rfl (Qn rfl)
       refine AllF.cons rfl rfl rfl rfl ?_ ?_
       ·refine Qo rfl rfl (by rfl) ?_
        exact Qn rfl
       refine AllF.cons rfl rfl rfl rfl ?_ ?_
       ·exact Qc rfl rfl (Qn rfl)
       refine AllF.cons rfl rfl rfl rfl ?_ ?_
       ·refine Ym rfl rfl ?_
        exact Qn rfl
       refine AllF.cons rfl rfl rfl rfl ?_ ?_
       ·refine Ym rfl rfl ?_
        exact Qn rfl
       refine Xg rfl rfl rfl rfl ?_ ?_
       ·exact Qc rfl rfl (Qn rfl)
       refine Xg rfl rfl rfl rfl ?_ ?_
       ·exact Qc rfl rfl (Qn rfl)
       refine Xg rfl rfl rfl rfl ?_ ?_
       ·refine QE rfl rfl rfl (Qt (by omega) (by omega)) ?_
        exact Qn rfl
       exact AllF.nil
      ·refine Xb rfl rfl rfl (by rfl) rfl ?_
       refine WpL.nil ⟨rfl, rfl, ?_⟩
       apply GoR.nil [⟨13, 5, _, [0, 1, 2, 3, 4, 5, 6, 7, 8, 9, 10, 11, 12], false⟩, ⟨14, 6, _, [0, 1, 2, 3, 4, 5, 6, 7, 8, 9, 10, 11, 12, 13], false⟩] (.inl ⟨_, .nil⟩) rfl rfl
       ·refine AllF.cons rfl rfl rfl rfl ?_ ?_
        ·exact Qe rfl rfl (Qn rfl)
        refine AllF.cons rfl rfl rfl rfl ?_ ?_
        ·exact Qe rfl rfl (Qn rfl)
        exact AllF.nil
       ·refine Qi ?_
        apply RetQ.mk
        ·exact (Yf rfl rfl (by rfl) rfl rfl)
        ·exact ⟨a3, c3, by rw [parF_p (out := out) (i := i) hPd (by omega) (by simpa using hrd.symm)]; try rfl, rfl⟩
        ·rw [parF_p (out := out) (i := i) hPd (by omega) (by simpa using hrd.symm)]
         exact Take.ent' (by repeat' constructor)
 ·simp only [Qr]
  refine Qc rfl rfl (QD rfl rfl rfl (QD rfl rfl rfl (QD rfl rfl rfl (XY rfl ?_))))
  intro gH
  refine Xb rfl rfl rfl (by rfl) rfl ?_
  refine Qe rfl rfl (Qe rfl rfl (WpL.nil (Qb (Qb (Qa (Qc rfl rfl (Xc rfl rfl rfl (WpL.nil (QM rfl hE (Qb (Qa ?_)))))))))))
  refine Ym rfl rfl ?_
  refine Qc rfl rfl ?_
  refine Xb rfl rfl rfl (by rfl) rfl ?_
  refine Qe rfl rfl (Qe rfl rfl (WpL.nil (Qi ?_)))
  apply RetQ.mk
  ·exact (Yf rfl rfl (by rfl) rfl rfl)
  ·exact ⟨none, 0, by rw [parF_e hPd hE]; rfl, rfl⟩
  ·rw [parF_e hPd hE]
   exact Ent.own_nil (Take.ent' (by repeat' constructor))

end Go.Proofs.YtggamdlpiejbiaaGreat
namespace Go.Proofs.YtggamdlpiejbiaaGreat
open Go.RowKit Go.Shelf


theorem liv_par0 : (YJ (XE 4096) (XF 65536) (XG 65535) [80, 49, 32, 50, 32, 49, 32, 49, 32, 48, 32]).2 = (10, 0) ∧ (YJ (XE 4096) (XF 65536) (XG 65535) [80, 49, 32, 50, 32, 49, 32, 49, 32, 48, 32]).1.c = 1 ∧ (YJ (XE 4096) (XF 65536) (XG 65535) [80, 49, 32, 50, 32, 49, 32, 49, 32, 48, 32]).1.m = 1 ∧ (YJ (XE 4096) (XF 65536) (XG 65535) [80, 49, 32, 50, 32, 49, 32, 49, 32, 48, 32]).1.w = 2 ∧ (YJ (XE 4096) (XF 65536) (XG 65535) [80, 49, 32, 50, 32, 49, 32, 49, 32, 48, 32]).1.h = 1 ∧ (YJ (XE 4096) (XF 65536) (XG 65535) [80, 49, 32, 50, 32, 49, 32, 49, 32, 48, 32]).1.px = [281474976710657, 281474976710656] := by decide +kernel
theorem liv_par : YJ (XE 4096) (XF 65536) (XG 65535) [80, 49, 32, 50, 32, 49, 32, 49, 32, 48, 32] = (⟨1, 1, 2, 1, [281474976710657, 281474976710656]⟩, 10, 0) := by
  obtain ⟨h1, h2, h3, h4, h5, h6⟩ := liv_par0
  generalize YJ (XE 4096) (XF 65536) (XG 65535) [80, 49, 32, 50, 32, 49, 32, 49, 32, 48, 32] = q at *
  obtain ⟨⟨c, m, w, h, px⟩, n, e⟩ := q
  simp_all
theorem liv_wr : ZT ⟨1, 1, 2, 1, [281474976710657, 281474976710656]⟩ 4 = [80, 52, 10, 50, 32, 49, 10, 128] := by decide +kernel
theorem liv_kd : (4 : Int) ∈ QN 1 1 := by rw [kindsF_1 (by unfold Yt; omega) (by decide) rfl]; decide
theorem liv_ft : XM 1 1 2 1 [281474976710657, 281474976710656] := by decide +kernel

theorem lives10_spec  : Fn Tryz.prog 37 #[] [] (fun v l => v = .bool true ∧ l = []) := by
 refine Ql (vs := []) Tryz.func37 rfl Tryz.ntmps37 rfl (Qb (Qa (Qe rfl rfl (WpL.nil (Qb (Qa ?_))))))
 refine s_bs (os := [(0, .const (.int .u8 80)), (1, .const (.int .u8 49)), (2, .const (.int .u8 32)), (3, .const (.int .u8 50)), (4, .const (.int .u8 32)), (5, .const (.int .u8 49)), (6, .const (.int .u8 32)), (7, .const (.int .u8 49)), (8, .const (.int .u8 32)), (9, .const (.int .u8 48)), (10, .const (.int .u8 32))]) [.int .u8 80, .int .u8 49, .int .u8 32, .int .u8 50, .int .u8 32, .int .u8 49, .int .u8 32, .int .u8 49, .int .u8 32, .int .u8 48, .int .u8 32] rfl rfl rfl (by simp [Value.cells]) (by decide) (fun a hh => rfl) ?_
 intro g7
 refine s_b2b rfl Tryz.underlying22 Tryz.underlying5 rfl (by repeat' constructor) ?_
 refine Qh rfl rfl (by repeat' constructor) (hdAll_spec) ?_
 rintro _ _ ⟨rfl, rfl⟩
 simp only [Qr]
 refine Qh rfl rfl (by repeat' constructor) (iParse_spec (cvR 5 g7 11 (Xh [80, 49, 32, 50, 32, 49, 32, 49, 32, 48, 32])) (some ⟨g7, 0, none⟩) 11 [80, 49, 32, 50, 32, 49, 32, 49, 32, 48, 32] RdsL.cvR (by decide) (by decide) (by decide) 4096 65536 65535) ?_
 rintro _ _ ⟨aR, cR, rfl, rfl⟩
 simp only [Qr]
 rw [liv_par]
 dsimp only
 refine Zi (T := 92) (s := 1) (a := aR) (c := cR) (by repeat' constructor) (fun hcr => ?_)
 refine Qc rfl rfl (QD rfl rfl rfl (QD rfl rfl rfl (QD rfl rfl rfl (XY rfl ?_))))
 intro gM
 refine Xb rfl rfl rfl (by rfl) rfl ?_
 refine Qe rfl rfl (Qe rfl rfl (WpL.nil (Qb (Qa ?_))))
 refine QA (vs := [_, _, _, _, _]) rfl rfl rfl (by rfl) ?_
 refine Qh rfl rfl (by repeat' constructor) (iWriteN_spec (QL 92 1 aR cR 2 (XA [281474976710657, 281474976710656])) 1 1 2 1 aR cR [281474976710657, 281474976710656] QR (by decide) hcr (by decide) 4) ?_
 intro v0 m0 hN0
 rcases hN0 with ⟨hT1, hT2, gW, cW, rfl, rfl⟩ | ⟨hT, rfl, rfl⟩
 ·simp only [Qr]
  refine Qc rfl rfl (QD rfl rfl rfl (QD rfl rfl rfl (Qe rfl rfl (Qe rfl rfl (WpL.nil (Qb (Qa (Qc rfl rfl (QK rfl rfl rfl (Qc rfl rfl (Qx (dj := 21) rfl rfl ?_)))))))))))
  refine Qf rfl rfl (Qc rfl rfl (Qf rfl rfl (QK rfl rfl rfl (Qs rfl rfl rfl (Qc rfl rfl (Qx (dj := 25) rfl rfl ?_))))))
  refine Qf rfl rfl (Qc rfl rfl (Qf rfl rfl (QK rfl rfl rfl (Qs rfl rfl rfl (Qc rfl rfl (Qx (dj := 29) rfl rfl ?_))))))
  refine Qf rfl rfl (Qc rfl rfl (Qf rfl rfl (s_b2sR rfl Tryz.underlying22 Tryz.underlying5 Tryz.underlying9 rfl (RdsL.rdo (g := gW) (xs := Xh (ZT ⟨1, 1, 2, 1, [281474976710657, 281474976710656]⟩ 4))) (by exact Take.ent' (by repeat' constructor)) rfl ?_)))
  refine Qf rfl rfl ?_
  refine s_bs (os := [(0, .const (.int .u8 80)), (1, .const (.int .u8 52)), (2, .const (.int .u8 10)), (3, .const (.int .u8 50)), (4, .const (.int .u8 32)), (5, .const (.int .u8 49)), (6, .const (.int .u8 10)), (7, .const (.int .u8 128))]) [.int .u8 80, .int .u8 52, .int .u8 10, .int .u8 50, .int .u8 32, .int .u8 49, .int .u8 10, .int .u8 128] rfl rfl rfl (by simp [Value.cells]) (by decide) (fun a hh => rfl) ?_
  intro g32
  refine Qf rfl rfl (s_b2sR rfl Tryz.underlying22 Tryz.underlying5 Tryz.underlying9 rfl (RdsL.blk (g := g32) (o := 0) (T := 5) (cs := Xh [80, 52, 10, 50, 32, 49, 10, 128]) (xs := Xh [80, 52, 10, 50, 32, 49, 10, 128]) rfl) (by exact Take.ent' (by repeat' constructor)) rfl ?_)
  refine Qf rfl rfl (s_seq rfl rfl rfl (Qs rfl rfl rfl (Qe rfl rfl (WpL.nil (Qi ?_)))))
  apply RetQ.mk
  ·exact (Res.one rfl rfl)
  ·exact ⟨congrArg Value.bool (decide_eq_true (by have q := liv_wr; exact congrArg strOfNums q)), rfl⟩
  ·exact Ent.nil _
 ·simp only [Qr]
  exfalso
  exact hT ⟨liv_kd, liv_ft⟩

end Go.Proofs.YtggamdlpiejbiaaGreat
namespace Go.Proofs.YtggamdlpiejbiaaGreat
open Go.RowKit Go.Shelf


theorem WpL.cvLe {P : Program} {n : Cx} {D : List Deferred} {ops : Array Oper} {rest : List Oper} {Q : Post} {fr : Fr} {l : List HP} {e g c : Nat} {xs : List Value} {F : List HP} (ht : Take1 l (cvR e g c xs) F) (k : xs.length ≤ c → WpL P n D ops rest Q fr l) : WpL P n D ops rest Q fr l := fun A w U hh hs => by
  refine k ?_ A w U hh hs
  obtain ⟨S, hp, _⟩ := ht.ent w U hs
  obtain ⟨_, _, _, _, h, _⟩ := hp
  exact h

theorem rWrite10c_spec (A0 : HP) (m : Img) (a : Option Addr) (c : Nat) (hA : RdsL [A0] a (XA m.px)) (most : Int) (hmo : most ≤ 100) (hg : GoodI most m) (k : Int) (hk : k ∈ QN m.c m.m) : Fn Tryz.prog 34 #[.agg #[.int .i64 m.c, .int .i64 m.m, .int .i64 m.w, .int .i64 m.h, .slice a m.px.length c], .int .i64 k] [A0] (fun v l => ∃ B b e, RdsL [B] b (Xh (ZT m k)) ∧ (ZT m k).length ≤ e ∧ v = .tuple #[.slice b (ZT m k).length e, .int .i64 0] ∧ l = [B, A0]) := by
 obtain ⟨hMay, hfit, hfm⟩ := good_fits hmo hg hk
 obtain ⟨hz1, hz2⟩ := good_sz hmo hg
 have hb : ∀ p ∈ m.px, 0 ≤ p ∧ p < 18446744073709551616 := fun p hp => (hg.2.2.2.2.2 p hp).2
 have hM2 := hMay
 unfold Xt at hM2
 obtain ⟨_, hg2, hgw, hgh, hgl, _⟩ := id hg
 have hWn : ((m.w.toNat : Nat) : Int) = m.w := by omega
 have hHn : ((m.h.toNat : Nat) : Int) = m.h := by omega
 have hz6 := hdW_len (K := k) (W := m.w) (H := m.h) (M := m.m) (by omega) (by omega) (by omega) (by omega)
 refine Ql (vs := [.agg #[.int .i64 m.c, .int .i64 m.m, .int .i64 m.w, .int .i64 m.h, .slice a m.px.length c], .int .i64 k]) Tryz.func34 rfl Tryz.ntmps34 rfl (Qb (Qa (QV rfl rfl rfl ?_)))
 intro gI
 refine Qe rfl rfl (Qe rfl rfl (WpL.nil (Qb (Qa ?_))))
 refine QA (vs := [_, _, _, _, _]) rfl rfl rfl (by rfl) ?_
 refine Qc rfl rfl (Qh rfl rfl (by repeat' constructor) (rTells_spec [A0] m.c m.m m.w m.h a c m.px hA hb (by omega) k) ?_)
 rintro _ _ ⟨rfl, rfl⟩
 simp only [Qr]
 refine Qe rfl rfl (WpL.nil (Qb (Qb (Qa (Qc rfl rfl (XH rfl rfl (WpL.nil (Qk rfl (fun h0 => ?_) (fun h0 => ?_)))))))))
 ·exfalso; exact absurd ⟨hk, hfm⟩ h0
 ·refine Wp.skip (Qb (Qa (Qc rfl rfl (Qj (o2 := 2) rfl rfl rfl (Qj (o2 := 2) rfl rfl rfl (Qo rfl rfl (by rfl) ?_))))))
  refine Qj (o2 := 2) rfl rfl rfl (Qj (o2 := 3) rfl rfl rfl (Qo rfl rfl (by rfl) ?_))
  refine Qj (o2 := 0) rfl rfl rfl (Qj (o2 := 1) rfl rfl rfl (Qo rfl rfl (by rfl) ?_))
  refine Ym rfl rfl ?_
  refine XY rfl ?_
  intro gH
  refine Xb rfl rfl rfl (by rfl) rfl ?_
  refine WpL.nil (Qb (Qa ?_))
  refine QA (vs := [_, _, _, _]) rfl rfl rfl (by rfl) ?_
  refine Qh rfl rfl (by repeat' constructor) (rWrite06_spec _ _ _ _ hMay) ?_
  rintro _ _ ⟨s6, hs6, rfl, rfl⟩
  simp only [Qr]
  have hs6z : s6.size ≤ 100000 := by rw [← Xj, hs6]; exact hz6
  refine Qc rfl rfl (QD rfl rfl rfl (QD rfl rfl rfl (Qe rfl rfl (Qe rfl rfl (WpL.nil (Qb (Qb (Qa (Qc rfl rfl (Q4 rfl rfl rfl (WpL.nil (Qk rfl (fun h1 => ?_) (fun h1 => ?_)))))))))))))
  ·refine Qb (Qa (Qj (o2 := 2) rfl rfl rfl (Qj (o2 := 4) rfl rfl rfl (Qo rfl rfl (by rfl) ?_))))
   refine QA (vs := [_, _, _, _]) rfl rfl rfl (by rfl) ?_
   refine Qh rfl rfl (by repeat' constructor) (rWrite_spec A0 a c m.px hA hb (by omega) k m.w m.h m.m) ?_
   rintro _ _ ⟨s8, e8, rfl, hs8, rfl⟩
   simp only [Qr]
   obtain ⟨_, rfl, hs8, hz8⟩ : WrP k m.w m.h m.m m.px ∧ e8 = 0 ∧ QW s8 = Y8 k m.w 0 m.px ∧ s8.size ≤ m.px.length * 300000 := by
    rcases hs8 with q | q
    ·exact q
    ·exact absurd (⟨⟨hMay, by omega⟩, hgl, hfit⟩ : WrP k m.w m.h m.m m.px) q.1
   refine Qc rfl rfl (QD rfl rfl rfl (QD rfl rfl rfl (Qe rfl rfl (Qe rfl rfl (WpL.nil (Qb (Qa (Qc rfl rfl (Qc rfl rfl (Yc rfl rfl rfl (by omega) ?_))))))))))
   refine s_t2bc rfl Tryz.underlying9 Tryz.underlying22 Tryz.underlying5 rfl ?_
   intro gB cB
   refine WpL.cvLe (by repeat' constructor) (fun hcB => ?_)
   rw [QY] at hcB
   rw [show QW (s6 ++ s8) = ZT m k by rw [XQ, hs6, hs8, ZT, if_pos (by omega)]] at hcB ⊢
   refine Qe rfl rfl (Qe rfl rfl (WpL.nil (Qi ?_)))
   apply RetQ.mk
   ·exact (QC rfl rfl rfl)
   ·exact ⟨cvR 5 gB cB _, _, cB, RdsL.cvR, hcB, rfl, rfl⟩
   ·exact Take.ent' (by repeat' constructor)
  ·have hpl : m.px.length = m.w.toNat * m.h.toNat := by
    have q : ((m.w.toNat * m.h.toNat : Nat) : Int) = m.w * m.h := by rw [Int.natCast_mul, hWn, hHn]
    omega
   have hw9 := rWrite09_spec A0 a c m.px hA hb k m.w.toNat m.h.toNat m.m (by rw [hWn, hHn]; exact ⟨hMay, by omega⟩) hpl hfit (by omega)
   rw [hWn, hHn] at hw9
   have hwl := X0 (K := k) (w := Qg m.m) (QX m.m) hpl (fun p hp => by have := ZX (hfit p hp); omega) m.h.toNat (Nat.le_refl _)
   have hsb := XO (K := k) (W := m.w.toNat) (QX m.m) (by omega) (by omega)
   have hwl2 : (Q5 k m.w.toNat (Qg m.m) m.px m.h.toNat).length ≤ 24576 * 100 := by rw [hwl]; exact Nat.mul_le_mul hsb.2 (by omega)
   refine Wp.skip (Qb (Qa (Qj (o2 := 2) rfl rfl rfl (Qj (o2 := 4) rfl rfl rfl (Qo rfl rfl (by rfl) ?_)))))
   refine QA (vs := [_, _, _, _]) rfl rfl rfl (by rfl) ?_
   refine Qh rfl rfl (by repeat' constructor) (hw9) ?_
   rintro _ _ ⟨a9, c9, rfl, rfl⟩
   simp only [Qr]
   refine Qc rfl rfl (QD rfl rfl rfl (QD rfl rfl rfl (Qe rfl rfl (Qe rfl rfl (WpL.nil (Qb (Qa (Qe rfl rfl (WpL.nil (Qb (Qa (Qc rfl rfl ?_))))))))))))
   refine Qc rfl rfl (s_t2bc rfl Tryz.underlying9 Tryz.underlying22 Tryz.underlying5 rfl ?_)
   intro gB cB
   refine WpL.cvLe (by repeat' constructor) (fun hcB => ?_)
   rw [QY] at hcB
   rw [hs6]
   refine WpL.ent (Ent.own_nil (T := 5) (s := 1) (Ent.refl _)) ?_
   refine s_appR (xs := []) (m2 := (hdW k m.w m.h m.m).length) rfl rfl rfl (by repeat' constructor) RdsL.cvR (by exact Take.ent' (by repeat' constructor)) (by rw [QY, Nat.mul_one]) (by rfl) (by rfl) (YW _) (by omega) (by omega) ?_
   intro a61 c61
   rw [List.nil_append, Nat.zero_add]
   refine Qe rfl rfl (WpL.nil (Qb (Qa (Qc rfl rfl (Qc rfl rfl (s_appo rfl rfl rfl (by repeat' constructor) (by rfl) (by rfl) (YW _) (by omega) (by omega) ?_))))))
   intro a64 c64
   rw [Vc, ← List.length_append, show hdW k m.w m.h m.m ++ Q5 k m.w.toNat (Qg m.m) m.px m.h.toNat = ZT m k by rw [ZT, if_neg (by omega)]]
   refine Zi (by repeat' constructor) (fun hco => ?_)
   refine Qe rfl rfl (Qe rfl rfl (WpL.nil (Qi ?_)))
   apply RetQ.mk
   ·exact (QC rfl rfl rfl)
   ·exact ⟨QL 5 1 a64 c64 (ZT m k).length (Xh (ZT m k)), a64, c64, QR, hco, rfl, rfl⟩
   ·exact Take.ent' (by repeat' constructor)

end Go.Proofs.YtggamdlpiejbiaaGreat
namespace Go.Proofs.YtggamdlpiejbiaaGreat
open Go.RowKit Go.Shelf


theorem as10_spec (x : Img) (a : Option Addr) (c : Nat) : Fn Tryz.prog 41 #[.agg (mC x a c).toArray] [] (fun v l => v = .agg (mC x a c).toArray ∧ l = []) := by
 refine Ql (vs := [.agg (mC x a c).toArray]) Tryz.func41 rfl Tryz.ntmps41 rfl (Qb (Qa (QV rfl rfl rfl ?_)))
 intro g1
 refine XY rfl ?_
 intro g2
 refine WpL.nil (Qb (Qa (Qj (o2 := 0) rfl rfl rfl ?_)))
 refine QA (vs := [_, _]) rfl rfl rfl (by rfl) ?_
 refine Qj (o2 := 2) rfl rfl rfl (Qj (o2 := 2) rfl rfl rfl (Qo rfl rfl (by rfl) ?_))
 refine Qj (o2 := 2) rfl rfl rfl (Qj (o2 := 3) rfl rfl rfl (Qo rfl rfl (by rfl) ?_))
 refine Qj (o2 := 2) rfl rfl rfl (Qj (o2 := 4) rfl rfl rfl (Qo rfl rfl (by rfl) ?_))
 refine Ym rfl rfl ?_
 refine Ym rfl rfl ?_
 refine Xb rfl rfl rfl (by rfl) rfl ?_
 refine WpL.nil (Qi ?_)
 apply RetQ.mk
 ·exact (Xw rfl rfl (by rfl))
 ·exact ⟨rfl, rfl⟩
 ·exact Ent.nil _

end Go.Proofs.YtggamdlpiejbiaaGreat
namespace Go.Proofs.YtggamdlpiejbiaaGreat
open Go.RowKit Go.Shelf

theorem fit_canU {p C M : Int} (_h0 : 0 ≤ p) (h : X6 p C M) (_hM : M ≤ 65535) : Can C M p := by
  obtain ⟨hf, hl, hm⟩ := h
  refine ⟨hl, ?_, ?_⟩
  · unfold Qm at hl ⊢
    by_cases h3 : p / 281474976710656 = 3
    · rw [if_pos h3, pack_three (by unfold ZE; omega) (by unfold ZE; omega) (by unfold ZE; omega)]
      simp only
      omega
    · rw [if_neg h3] at hl ⊢
      by_cases h1 : p / 281474976710656 = 1 ∧ p / 4294967296 % 65536 = 0 ∧ p / 65536 % 65536 = 0
      · rw [if_pos h1, pack_one (by unfold ZE; omega)]
        simp only
        omega
      · rw [if_neg h1] at hl
        have := hf.1
        simp at hl
        omega
  · intro x hx
    refine ⟨?_, hm x hx⟩
    unfold Qm at hx
    split at hx
    · simp at hx; omega
    · split at hx
      · simp at hx; omega
      · simp at hx
theorem tk_dig {most n : Int} {ph : Int} {d : Nat} (hph : ph = 0 ∨ ph = 2) (hd : d < 10) (hm : n * 10 + d ≤ most) (hn : 0 ≤ n) : QP most ⟨ph, n, 9⟩ (48 + (d : Int)) = (⟨2, n * 10 + d, 9⟩, 0) := by
  have hst : Xf n (48 + (d : Int)) most = (n * 10 + d, 0) := by
    unfold Xf
    rw [if_neg (by omega), if_neg (by omega)]
    exact Prod.ext (by simp only; omega) rfl
  have hb : Q3 (48 + (d : Int)) = false := decide_eq_false (by omega)
  unfold QP
  rw [if_neg (by simp only; omega), if_neg (by simp only; omega), if_neg (by simp only; omega), if_neg (by simp only; omega), if_neg (by omega), if_neg (by rw [hb]; decide)]
  simp only [hst]
  rw [if_neg (by simp)]
theorem hd_dig {l0 l1 l2 K W H M i n : Int} {ph : Int} {d : Nat} (hph : ph = 0 ∨ ph = 2) (hd : d < 10) (hn : 0 ≤ n) (hm : n * 10 + d ≤ XU l0 l1 l2 i) (bs : List Int) (k : Int) : XD l0 l1 l2 ⟨K, W, H, M, 3, i, ⟨ph, n, 9⟩, 0, 9⟩ ((48 + (d : Int)) :: bs) k = XD l0 l1 l2 ⟨K, W, H, M, 3, i, ⟨2, n * 10 + d, 9⟩, 0, 9⟩ bs (k + 1) := by
  have e : Xd l0 l1 l2 ⟨K, W, H, M, 3, i, ⟨ph, n, 9⟩, 0, 9⟩ (48 + (d : Int)) = ⟨K, W, H, M, 3, i, ⟨2, n * 10 + d, 9⟩, 0, 9⟩ := by
    unfold Xd
    rw [if_neg (by simp), if_neg (by simp)]
    unfold Xs
    simp only [tk_dig hph hd hm hn]
    rfl
  rw [Yx _ _ _ (by rw [e]), e]
theorem hd_digs {l0 l1 l2 K W H M i : Int} : ∀ (n : Nat), (n : Int) ≤ XU l0 l1 l2 i → ∀ (bs : List Int) (k : Int), XD l0 l1 l2 ⟨K, W, H, M, 3, i, ZU, 0, 9⟩ (Xu n ++ bs) k = XD l0 l1 l2 ⟨K, W, H, M, 3, i, ⟨2, n, 9⟩, 0, 9⟩ bs (k + (Xu n).length) := by
  intro n
  induction n using Nat.strongRecOn with
  | _ n ih =>
    intro hm bs k
    rw [Xu]
    by_cases h : n < 10
    · rw [if_pos h]
      have := hd_dig (l0 := l0) (l1 := l1) (l2 := l2) (K := K) (W := W) (H := H) (M := M) (i := i) (n := 0) (ph := 0) (.inl rfl) h (by omega) (by omega) bs k
      rw [show (0 * 10 + (n : Int)) = n by omega] at this
      exact this
    · rw [if_neg h, List.append_assoc, ih (n / 10) (by omega) (by omega)]
      have := hd_dig (l0 := l0) (l1 := l1) (l2 := l2) (K := K) (W := W) (H := H) (M := M) (i := i) (n := ((n / 10 : Nat) : Int)) (ph := 2) (d := n % 10) (.inr rfl) (by omega) (by omega) (by omega) bs (k + (Xu (n / 10)).length)
      rw [show (((n / 10 : Nat) : Int) * 10 + ((n % 10 : Nat) : Int)) = n by omega] at this
      rw [List.length_append]
      refine this.trans ?_
      congr 1
      simp only [List.length_cons, List.length_nil]
      push_cast
      omega
/-- A number's last digit, and the blank behind it. -/
theorem hd_end {l0 l1 l2 K W H M i c : Int} {n : Int} (hn : 1 ≤ n) (hc : Q3 c = true) : Xd l0 l1 l2 ⟨K, W, H, M, 3, i, ⟨2, n, 9⟩, 0, 9⟩ c = (if (XP (Yn ⟨K, W, H, M, 3, i, ⟨2, n, 9⟩, 0, 9⟩ n)).i < 3 then { XP (Yn ⟨K, W, H, M, 3, i, ⟨2, n, 9⟩, 0, 9⟩ n) with t := ZU, last := 0 } else { XP (Yn ⟨K, W, H, M, 3, i, ⟨2, n, 9⟩, 0, 9⟩ n) with t := ⟨4, n, 0⟩, last := 1, e := 0 }) := by
  have h35 : c ≠ 35 := fun e => by subst e; simp [Q3] at hc
  have ht : QP (XU l0 l1 l2 i) ⟨2, n, 9⟩ c = (⟨4, n, 0⟩, 1) := by
    unfold QP
    rw [if_neg (by simp), if_neg (by simp), if_neg (by simp), if_neg (by simp), if_neg h35, if_pos hc, if_neg (by simp)]
  unfold Xd
  rw [if_neg (by simp), if_neg (by simp)]
  unfold Xs
  simp only [ht]
  rw [if_neg (by decide), if_neg (by decide), if_neg (by omega)]
/-- A head that is done. -/
def hdZ (K W H M : Int) (i : Int) (t : TS) : HS := ⟨K, W, H, M, 3, i, t, 1, 0⟩
theorem hd_back {l0 l1 l2 K W H M : Int} (_hL : LimO l0 l1 l2) (hM : Xt K W H M) (h0 : W ≤ l0) (h1 : H ≤ l1) (h2 : M ≤ l2) (bs : List Int) : ∃ t, XD l0 l1 l2 hd0 (hdW K W H M ++ bs) 0 = (hdZ K W H M 3 t, ((hdW K W H M).length : Int)) := by
  unfold Xt at hM
  have hd1 : Xu K.toNat = [48 + K] := by rw [Xu, if_pos (by omega)]; congr 1; omega
  have hb32 : Q3 32 = true := rfl
  have hb10 : Q3 10 = true := rfl
  have e1 : Xd l0 l1 l2 hd0 80 = ⟨0, 0, 0, 0, 1, 0, ZU, 0, 9⟩ := by simp [Xd, XJ, hd0]
  have e2 : Xd l0 l1 l2 ⟨0, 0, 0, 0, 1, 0, ZU, 0, 9⟩ (48 + K) = ⟨K, 0, 0, 0, 2, 0, ZU, 0, 9⟩ := by
    unfold Xd XJ
    rw [if_neg (by simp), if_pos (by simp), if_neg (by simp; omega), if_pos (by simp)]
    show (⟨48 + K - 48, 0, 0, 0, 2, 0, ZU, 0, 9⟩ : HS) = _
    rw [show (48 + K - 48 : Int) = K by omega]
  have e3 : Xd l0 l1 l2 ⟨K, 0, 0, 0, 2, 0, ZU, 0, 9⟩ 10 = ⟨K, 0, 0, 0, 3, 0, ZU, 0, 9⟩ := by
    unfold Xd XJ
    rw [if_neg (by simp), if_pos (by simp), if_neg (by simp), if_neg (by simp), if_pos (by simp), if_neg (by simp [hb10])]
    have ht : (QP l0 ZU 10).1 = ZU := by
      unfold QP ZU
      rw [if_neg (by simp), if_neg (by simp), if_neg (by simp), if_neg (by simp), if_neg (by decide), if_pos hb10, if_pos (by simp)]
    rw [ht]
    rfl
  have hWt : ((W.toNat : Nat) : Int) = W := by omega
  have hHt : ((H.toNat : Nat) : Int) = H := by omega
  have hMt : ((M.toNat : Nat) : Int) = M := by omega
  have e4 : Xd l0 l1 l2 ⟨K, 0, 0, 0, 3, 0, ⟨2, W, 9⟩, 0, 9⟩ 32 = ⟨K, W, 0, 0, 3, 1, ZU, 0, 9⟩ := by
    rw [hd_end (by omega) hb32]
    simp [Yn, XP]
  have e5 : ∀ (hb : YZ K), Xd l0 l1 l2 ⟨K, W, 0, 0, 3, 1, ⟨2, H, 9⟩, 0, 9⟩ 10 = ⟨K, W, H, 1, 3, 3, ⟨4, H, 0⟩, 1, 0⟩ := fun hb => by
    rw [hd_end (by omega) hb10]
    simp [Yn, XP, hb]
  have e6 : ∀ (hb : ¬ YZ K), Xd l0 l1 l2 ⟨K, W, 0, 0, 3, 1, ⟨2, H, 9⟩, 0, 9⟩ 10 = ⟨K, W, H, 0, 3, 2, ZU, 0, 9⟩ := fun hb => by
    rw [hd_end (by omega) hb10]
    simp [Yn, XP, hb]
  have e7 : Xd l0 l1 l2 ⟨K, W, H, 0, 3, 2, ⟨2, M, 9⟩, 0, 9⟩ 10 = ⟨K, W, H, M, 3, 3, ⟨4, M, 0⟩, 1, 0⟩ := by
    rw [hd_end (by omega) hb10]
    simp [Yn, XP]
  have hl0 : XU l0 l1 l2 0 = l0 := rfl
  have hl1 : XU l0 l1 l2 1 = l1 := rfl
  have hl2 : XU l0 l1 l2 2 = l2 := rfl
  have hw := hd_digs (l0 := l0) (l1 := l1) (l2 := l2) (K := K) (W := 0) (H := 0) (M := 0) (i := 0) W.toNat (by rw [hl0]; omega)
  have hh := hd_digs (l0 := l0) (l1 := l1) (l2 := l2) (K := K) (W := W) (H := 0) (M := 0) (i := 1) H.toNat (by rw [hl1]; omega)
  have hm := hd_digs (l0 := l0) (l1 := l1) (l2 := l2) (K := K) (W := W) (H := H) (M := 0) (i := 2) M.toNat (by rw [hl2]; omega)
  rw [hWt] at hw
  rw [hHt] at hh
  rw [hMt] at hm
  unfold hdW
  rw [hd1]
  simp only [List.append_assoc, List.cons_append, List.nil_append]
  rw [Yx _ _ _ (by rw [e1]), e1, Yx _ _ _ (by rw [e2]), e2, Yx _ _ _ (by rw [e3]), e3, hw, Yx _ _ _ (by rw [e4]), e4, hh]
  by_cases hb : YZ K
  · rw [ZJ _ _ _ (by rw [e5 hb]; exact fun q => absurd (show (1 : Int) = 0 from q) (by decide)), e5 hb]
    have hM1 : M = 1 := hM.2.2.2.2 hb
    subst hM1
    refine ⟨⟨4, H, 0⟩, Prod.ext rfl ?_⟩
    rw [if_pos (show K = 1 ∨ K = 4 from hb)]
    simp only [List.length_append, List.length_cons, List.length_nil]
    push_cast
    omega
  · rw [Yx _ _ _ (by rw [e6 hb]), e6 hb, if_neg (show ¬ (K = 1 ∨ K = 4) from hb)]
    simp only [List.append_assoc, List.cons_append, List.nil_append]
    rw [hm, ZJ _ _ _ (by rw [e7]; exact fun q => absurd (show (1 : Int) = 0 from q) (by decide)), e7]
    refine ⟨⟨4, M, 0⟩, Prod.ext rfl ?_⟩
    simp only [List.length_append, List.length_cons, List.length_nil]
    push_cast
    omega
theorem hdP_back {l0 l1 l2 K W H M : Int} (hL : LimO l0 l1 l2) (hM : Xt K W H M) (h0 : W ≤ l0) (h1 : H ≤ l1) (h2 : M ≤ l2) (bs : List Int) : X1 l0 l1 l2 (hdW K W H M ++ bs) = ((K, W, H, M), ((hdW K W H M).length : Int), 0) := by
  obtain ⟨t, e⟩ := hd_back hL hM h0 h1 h2 bs
  rw [hdP_fin, e]
  rfl
/-- An image's bytes are parsed as it was. -/
theorem par_back {C M : Int} {Wn Hn : Nat} {px : List Int} {k : Int} (hT : k ∈ QN C M ∧ XM C M (Wn : Int) (Hn : Int) px) (hp : ∀ p ∈ px, 0 ≤ p ∧ p < 18446744073709551616) :
    ∃ j, YJ 4096 65536 65535 (ZT ⟨C, M, (Wn : Int), (Hn : Int), px⟩ k) = (⟨C, M, (Wn : Int), (Hn : Int), px⟩, j, 0) ∧ (ZT ⟨C, M, (Wn : Int), (Hn : Int), px⟩ k).length - 1 ≤ j ∧ j ≤ (ZT ⟨C, M, (Wn : Int), (Hn : Int), px⟩ k).length := by
  obtain ⟨hMay, hfit, hpl, _⟩ := tk_may hT
  obtain ⟨hfm, _, hck, _⟩ := ZK hT.1
  have hM2 := hMay
  unfold Xt at hM2
  have hcan : ∀ p ∈ px, Can (QO k) M p := fun p hpp => fit_canU (hp p hpp).1 (hfit p hpp) (by omega)
  have hL : LimO 4096 65536 65535 := ⟨by omega, by omega, by omega⟩
  have hP := fun bs => hdP_back hL hMay (by omega) (by omega) (by omega) bs
  have hpn : px.length = Wn * Hn := by exact_mod_cast hpl
  unfold ZT
  dsimp only
  by_cases hk : k < 4
  · rw [if_pos hk]
    obtain ⟨j, hr⟩ := read_all (K := k) (W := (Wn : Int)) (H := (Hn : Int)) (M := M) ⟨hMay, by omega⟩ (feed_wr (by omega) (by omega) (fun h => hM2.2.2.2.2 (.inl h)) px 0 hcan) hcan (by rw [hpl, Int.mul_comm])
    have hj := read_where (K := k) (W := (Wn : Int)) (H := (Hn : Int)) (M := M) ⟨hMay, by omega⟩ hcan hpl hr
    have hq := parF_p (out := px) (i := j) (hP (Y8 k (Wn : Int) 0 px)) (by omega) (by rw [Int.toNat_natCast, List.drop_left]; exact hr)
    rw [hck] at hq
    refine ⟨_, hq, ?_⟩
    rw [List.length_append]
    omega
  · rw [if_neg hk, show ((Wn : Int)).toNat = Wn from rfl, show ((Hn : Int)).toNat = Hn from rfl]
    have hsb := XO (K := k) (W := Wn) (QX M) (by omega) (by omega)
    have hb := raw_back (K := k) (M := M) (W := Wn) (Hn := Hn) (by omega) (by omega) (fun h => hM2.2.2.2.2 (.inr h)) hpn hcan (List.replicate (QF k Wn (Qg M)) 0) (by simp) 0
    have hw := readW_raw (h := ⟨k, (Wn : Int), (Hn : Int), M, 0, 0, ZU, 1, 0⟩) ⟨rfl, rfl, hMay⟩ (Q5 k Wn (Qg M) px Hn) (List.replicate (QF k Wn (Qg M)) 0) (by simp) (by simp; omega)
    simp only [Int.toNat_natCast] at hw
    have hr := hw.symm.trans hb
    have hq := parF_r (out := px) (hP (Q5 k Wn (Qg M) px Hn)) (by omega) (by simp only [Int.toNat_natCast, List.drop_left]; exact hr)
    rw [hck] at hq
    have hwl := X0 (K := k) (w := Qg M) (QX M) hpn (fun p hpp => by have := ZX (hfit p hpp); omega) Hn (Nat.le_refl _)
    refine ⟨_, hq, ?_⟩
    rw [List.length_append, hwl, show ((Wn : Int)).toNat = Wn from rfl, show ((Hn : Int)).toNat = Hn from rfl]
    omega

end Go.Proofs.YtggamdlpiejbiaaGreat
namespace Go.Proofs.YtggamdlpiejbiaaGreat
open Go.RowKit Go.Shelf


theorem lims_all : XE 4096 = 4096 ∧ XF 65536 = 65536 ∧ XG 65535 = 65535 := by decide
theorem par_backI {most : Int} (hmo : most ≤ 100) {m : Img} (hg : GoodI most m) {k : Int} (hk : k ∈ QN m.c m.m) : ∃ j, YJ (XE 4096) (XF 65536) (XG 65535) (ZT m k) = (m, j, 0) ∧ (ZT m k).length - 1 ≤ j ∧ j ≤ (ZT m k).length := by
  obtain ⟨_, _, hfm⟩ := good_fits hmo hg hk
  have hpx : ∀ p ∈ m.px, 0 ≤ p ∧ p < 18446744073709551616 := fun p hp => (hg.2.2.2.2.2 p hp).2
  obtain ⟨c, mm, w, h, px⟩ := m
  obtain ⟨Wn, rfl⟩ := Int.eq_ofNat_of_zero_le (show 0 ≤ w by have := hg.2.2.1.1; dsimp only at this; omega)
  obtain ⟨Hn, rfl⟩ := Int.eq_ofNat_of_zero_le (show 0 ≤ h by have := hg.2.2.2.1.1; dsimp only at this; omega)
  rw [lims_all.1, lims_all.2.1, lims_all.2.2]
  exact par_back ⟨hk, hfm⟩ hpx
end Go.Proofs.YtggamdlpiejbiaaGreat
