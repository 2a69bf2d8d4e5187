/- Walks and plain laws, a part of the proof of ImageTurns: every input that the law's guards let in, no condition beside. -/
import Derived.Test.YtggamdlpiejbiaaGreatM22
namespace Go.Proofs.YtggamdlpiejbiaaGreat
open Go.RowKit Go.Shelf


/-- A row of which the first k are made other ones. -/
def trf (f : Int → Int) (xs : List Int) (k : Nat) : List Int := (xs.take k).map f ++ xs.drop k
theorem trf_len {f : Int → Int} {xs : List Int} {k : Nat} : (trf f xs k).length = xs.length := by simp [trf]; omega
theorem trf_0 {f : Int → Int} {xs : List Int} : trf f xs 0 = xs := by simp [trf]
theorem trf_all {f : Int → Int} {xs : List Int} : trf f xs xs.length = xs.map f := by simp [trf]
theorem trf_get {f : Int → Int} {xs : List Int} {k : Nat} (h : k < xs.length) : (Q5 (trf f xs k))[k]? = some (.int .u64 xs[k]) := by
  have hk : ((xs.take k).map f).length = k := by simp; omega
  have q : (trf f xs k)[k]? = some xs[k] := by
    rw [trf, List.getElem?_append_right (by omega), hk, Nat.sub_self, List.getElem?_drop, Nat.add_zero, List.getElem?_eq_getElem h]
  simp [Q5, q]
theorem trf_set {f : Int → Int} {xs : List Int} {k : Nat} (h : k < xs.length) : (trf f xs k).set k (f xs[k]) = trf f xs (k + 1) := by
  have hk : ((xs.take k).map f).length = k := by simp; omega
  rw [trf, List.set_append_right _ _ (by omega), hk, Nat.sub_self, List.drop_eq_getElem_cons h, List.set_cons_zero, trf, List.take_succ_eq_append_getElem h, List.map_append]
  simp

theorem pTurned_spec (p C M : Int) (h0 : 0 ≤ p) (h1 : p < 18446744073709551616) (hf : X1 p C M) : Fn Tryz.prog 97 #[.int .u64 p, .agg #[.int .i64 C, .int .i64 M]] [] (fun v l => v = .tuple #[.int .u64 (YA M p), .int .i64 0] ∧ l = []) := by
 have hM : 0 ≤ M ∧ M ≤ 65535 := by have := hf.1.2; omega
 refine Qk (vs := [.int .u64 p, .agg #[.int .i64 C, .int .i64 M]]) Tryz.func97 rfl Tryz.ntmps97 rfl (Qb (Qa (QP rfl rfl rfl ?_)))
 intro gF
 refine Qe rfl rfl (Qe rfl rfl (WpL.nil (Qb (Qb (Qa (Qd rfl rfl ?_))))))
 refine Qz (vs := [_, _]) rfl rfl rfl (by rfl) ?_
 refine Qg rfl rfl (by repeat' constructor) (Fits_spec p C M h0 h1) ?_
 rintro _ _ ⟨rfl, rfl⟩
 simp only [Qr]
 rw [decide_eq_true hf]
 refine YM rfl rfl (WpL.nil (QV rfl (Wp.skip (Qb (Qa (Qd rfl rfl (s_mkf rfl (fun a hh => XO hh _ _ rfl) ?_)))))))
 refine Qg rfl rfl (by repeat' constructor) (eachT_spec gF p C M h0 h1 hM) ?_
 rintro _ _ ⟨rfl, rfl⟩
 simp only [Qr]
 refine Qe rfl rfl (Qe rfl rfl (WpL.nil (Qh ?_)))
 apply RetQ.mk
 ·exact (QF rfl rfl rfl)
 ·exact ⟨rfl, rfl⟩
 ·exact Ent.nil _

theorem rTurned_spec (p C M : Int) (h0 : 0 ≤ p) (h1 : p < 18446744073709551616) (hf : X1 p C M) : Fn Tryz.prog 54 #[.int .u64 p, .agg #[.int .i64 C, .int .i64 M]] [] (fun v l => v = .tuple #[.int .u64 (YA M p), .int .i64 (Xy ((Qp p).map (M - ·))).2] ∧ l = []) := by
 have hM : 0 ≤ M ∧ M ≤ 65535 := by have := hf.1.2; omega
 have hul := unpack_len (p := p)
 have hub := unpack_bd (p := p)
 refine Qk (vs := [.int .u64 p, .agg #[.int .i64 C, .int .i64 M]]) Tryz.func54 rfl Tryz.ntmps54 rfl (Qb (Qa (QP rfl rfl rfl ?_)))
 intro gF
 refine Qe rfl rfl (Qe rfl rfl (WpL.nil (Qb (Qa (Qd rfl rfl ?_)))))
 refine Qz (vs := [_, _]) rfl rfl rfl (by rfl) ?_
 refine Qg rfl rfl (by repeat' constructor) (rFits_spec p C M h0 h1) ?_
 rintro _ _ ⟨rfl, rfl⟩
 simp only [Qr]
 rw [decide_eq_true hf]
 refine Qe rfl rfl (WpL.nil (Qb (Qb (Qa (Qd rfl rfl (YM rfl rfl (WpL.nil (QV rfl (Wp.skip (Qb (Qa (Qd rfl rfl ?_))))))))))))
 refine Qg rfl rfl (by repeat' constructor) (rUnpackW_spec p h0 h1) ?_
 rintro _ _ ⟨a7, c7, rfl, rfl⟩
 simp only [Qr]
 refine Qe rfl rfl (WpL.nil (Qb (Qb (Qa (Qe rfl rfl (WpL.nil (Wp.block ?_)))))))
 refine Wp.loopD (σ := Nat) (fun k => k ≤ (Qp p).length) [8, 16, 17, 18, 19, 20, 21, 22, 23, 24, 25, 26, 27, 28, 29, 30, 31] (fun k => [(8, .int .i64 (k : Int))]) (fun k => [QG 3 1 a7 c7 (Qp p).length (QU (trn M (Qp p) k)), QB gF [.int .i64 C, .int .i64 M] 48]) (fun k => (Qp p).length - k) 0 ?_ (by repeat (first | exact FrLe.nil | refine FrLe.cons rfl ?_)) ?_ ?_
 ·exact Nat.zero_le _
 ·rw [trn_0]
  exact Take.ent' (by repeat' constructor)
 ·rintro k hk
  refine Qb (Qb (Qa (Qd rfl rfl (Qd rfl rfl (QK rfl rfl (Q6 rfl rfl rfl (WpL.nil (Qm rfl (fun h2 => ?_) (fun h2 => ?_)))))))))
  ·have hkl : k < (Qp p).length := by omega
   have hxb := hub _ (List.getElem_mem hkl)
   refine Wp.skip (Qb (Wp.block ?_))
   apply Xe (fB := []) mixed [(10, false)] (by kernel_rfl)
   apply Q9 [⟨0, 22, _, [], false⟩, ⟨1, 23, _, [], false⟩, ⟨2, 24, _, [], false⟩, ⟨3, 25, _, [2], false⟩, ⟨4, 26, _, [], false⟩, ⟨5, 27, _, [], false⟩, ⟨6, 28, _, [4, 5], false⟩, ⟨7, 29, _, [6], false⟩, ⟨8, 30, _, [3, 7], false⟩, ⟨9, 31, _, [0, 1, 2, 3, 4, 5, 6, 7, 8], false⟩] [] [0, 1, 2, 3, 4, 5, 6, 7, 8, 9] [] (.inr rfl) rfl rfl rfl (by kernel_rfl) rfl rfl rfl
   ·refine AllF.cons rfl rfl rfl rfl ?_ ?_
    ·exact Qd rfl rfl (Ql rfl)
    refine AllF.cons rfl rfl rfl rfl ?_ ?_
    ·exact Qd rfl rfl (Ql rfl)
    refine AllF.cons rfl rfl rfl rfl ?_ ?_
    ·exact Qj (o2 := 1) rfl rfl rfl (Ql rfl)
    refine AllF.cons rfl rfl rfl rfl ?_ ?_
    ·refine Qo rfl rfl (by rfl) ?_
     exact Ql rfl
    refine AllF.cons rfl rfl rfl rfl ?_ ?_
    ·exact Qd rfl rfl (Ql rfl)
    refine AllF.cons rfl rfl rfl rfl ?_ ?_
    ·exact Qd rfl rfl (Ql rfl)
    refine AllF.cons rfl rfl rfl rfl ?_ ?_
    ·refine Q3 k rfl rfl rfl (QI (T := 3) (s := 1) (a := a7) (c := c7) (m := (Qp p).length)) (by exact Take.ent' (by repeat' constructor)) rfl hkl (by rw [QX, trn_len]; exact hkl) ?_
     exact Ql rfl
    refine AllF.cons rfl rfl rfl rfl ?_ ?_
    ·refine Xb rfl rfl (QI (T := 3) (s := 1) (a := a7) (c := c7) (m := (Qp p).length)) (by exact Take.ent' (by repeat' constructor)) (trn_get hkl) ?_
     exact Ql rfl
    refine AllF.cons rfl rfl rfl rfl ?_ ?_
    ·refine Yz rfl rfl rfl (Qt (by omega) (by omega)) ?_
     exact Ql rfl
    refine AllF.cons rfl rfl rfl rfl ?_ ?_
    ·refine Q3 k rfl rfl rfl (QI (T := 3) (s := 1) (a := a7) (c := c7) (m := (Qp p).length)) (by exact Take.ent' (by repeat' constructor)) rfl hkl (by rw [QX, trn_len]; exact hkl) ?_
     exact Ql rfl
    exact AllF.nil
   ·refine s_sto (a := a7) rfl rfl rfl (by repeat' constructor) (by rw [QX, trn_len]; exact hkl) ?_
    rw [ints_set, trn_set hkl]
    refine WpL.nil ⟨rfl, rfl, ?_⟩
    apply GoR.nil [] (.inr rfl) rfl rfl
    ·exact AllF.nil
    ·refine Qa (Qd rfl rfl (QE rfl rfl rfl (Qt (by omega) (by omega)) ?_))
     refine Qe rfl rfl (WpL.nil (Qy (k + 1) ?_ ?_ (by ((repeat (first | exact Top.refl | refine Top.push rfl ?_)); done)) (by repeat (first | exact FrLe.nil | refine FrLe.cons rfl ?_)) ?_))
     ·omega
     ·omega
     ·exact Ent.refl _
  ·obtain rfl : k = (Qp p).length := by omega
   rw [trn_all]
   refine QL (Qb (Qa (Qd rfl rfl ?_)))
   have hml : ((Qp p).map (M - ·)).length = (Qp p).length := List.length_map _
   rw [← hml]
   refine Qg rfl rfl (by repeat' constructor) (rPack_spec [QG 3 1 a7 c7 ((Qp p).map (M - ·)).length (QU ((Qp p).map (M - ·)))] a7 c7 ((Qp p).map (M - ·)) QI (by omega)) ?_
   rintro _ _ ⟨rfl, rfl⟩
   simp only [Qr]
   refine QC rfl rfl rfl (QC rfl rfl rfl (Qe rfl rfl (Qe rfl rfl (WpL.nil (Qh ?_)))))
   apply RetQ.mk
   ·exact (QF rfl rfl rfl)
   ·exact ⟨rfl, rfl⟩
   ·exact Ent.nil _

end Go.Proofs.YtggamdlpiejbiaaGreat
namespace Go.Proofs.YtggamdlpiejbiaaGreat
open Go.RowKit Go.Shelf

theorem iTurned_spec (A0 : HP) (C M W H : Int) (a : Option Addr) (c : Nat) (px : List Int) (hA : RdsL [A0] a (Q5 px)) (hb : ∀ p ∈ px, 0 ≤ p ∧ p < 18446744073709551616) (hl : px.length ≤ 1000000000) (hF : X7 C M W H px) : Fn Tryz.prog 53 #[.agg #[.int .i64 C, .int .i64 M, .int .i64 W, .int .i64 H, .slice a px.length c]] [A0] (fun v l => ∃ a' c', v = .tuple #[.agg #[.int .i64 C, .int .i64 M, .int .i64 W, .int .i64 H, .slice a' px.length c'], .int .i64 0] ∧ l = [QG 92 1 a' c' px.length (Q5 (px.map (YA M))), A0]) := by
 refine Qk (vs := [.agg #[.int .i64 C, .int .i64 M, .int .i64 W, .int .i64 H, .slice a px.length c]]) Tryz.func53 rfl Tryz.ntmps53 rfl (Qb (Qa (QP rfl rfl rfl ?_)))
 intro gI
 refine XK rfl ?_
 intro gR
 refine Qe rfl rfl (WpL.nil (Qb (Qb (Qa ?_))))
 refine Qz (vs := [_, _, _, _, _]) rfl rfl rfl (by rfl) ?_
 refine Qg rfl rfl (by repeat' constructor) (iMay_spec [A0] C M W H a c px hA hb (by omega)) ?_
 rintro _ _ ⟨rfl, rfl⟩
 simp only [Qr]
 rw [decide_eq_true hF]
 refine YM rfl rfl (WpL.nil (QV rfl (Wp.skip (Qb (Qa (Qj (o2 := 2) rfl rfl rfl (Qj (o2 := 4) rfl rfl rfl (Qo rfl rfl (by rfl) ?_))))))))
 refine Qg rfl rfl (by repeat' constructor) (pClone_spec A0 a c px hA hl) ?_
 rintro _ _ ⟨a4, c4, rfl, rfl⟩
 simp only [Qr]
 refine Qe rfl rfl (WpL.nil (Qb (Qb (Qa (Qd rfl rfl (QK rfl rfl (Qd rfl rfl (WpL.nil (Wp.block ?_)))))))))
 refine Wp.loopD (σ := Nat) (fun k => k ≤ px.length) [5, 6, 17, 18, 19, 20, 21, 22, 23, 24, 25, 26, 27, 28, 29, 30, 31, 32] (fun k => [(17, .int .i64 (k : Int))]) (fun k => [QG 92 1 a4 c4 px.length (Q5 (trf (YA M) px k)), QB gR [.int .i64 0, .int .i64 0, .int .i64 0, .int .i64 0, .slice none 0 0] 79, QB gI [.int .i64 C, .int .i64 M, .int .i64 W, .int .i64 H, .slice a px.length c] 79, A0]) (fun k => px.length - k) 0 ?_ (by repeat (first | exact FrLe.nil | refine FrLe.cons rfl ?_)) ?_ ?_
 ·exact Nat.zero_le _
 ·rw [trf_0]
  exact Take.ent' (by repeat' constructor)
 ·rintro k hk
  refine Qb (Qa (Q6 rfl rfl rfl (WpL.nil (Qb (Qm rfl (fun h2 => ?_) (fun h2 => ?_))))))
  ·have hkl : k < px.length := by omega
   have hpk := hb _ (List.getElem_mem hkl)
   have hfk := hF.2.2 _ (List.getElem_mem hkl)
   refine Wp.skip (Qb (Wp.block ?_))
   refine Qb (Qa (Qd rfl rfl (Q3 k rfl rfl rfl (QI (T := 92) (s := 1) (a := a4) (c := c4) (m := px.length)) (by exact Take.ent' (by repeat' constructor)) rfl hkl (by rw [Xt, trf_len]; exact hkl) ?_)))
   refine Xb rfl rfl (QI (T := 92) (s := 1) (a := a4) (c := c4) (m := px.length)) (by exact Take.ent' (by repeat' constructor)) (trf_get hkl) ?_
   refine Qe rfl rfl (Qe rfl rfl (WpL.nil (Qa (Qd rfl rfl (Qd rfl rfl (Qd rfl rfl (Qj (o2 := 0) rfl rfl rfl ?_)))))))
   refine Qz (vs := [_, _]) rfl rfl rfl (by rfl) ?_
   refine Qg rfl rfl (by repeat' constructor) (pTurned_spec px[k] C M hpk.1 hpk.2 hfk) ?_
   rintro _ _ ⟨rfl, rfl⟩
   simp only [Qr]
   refine Qd rfl rfl (QC rfl rfl rfl (QC rfl rfl rfl (Q3 k rfl rfl rfl (QI (T := 92) (s := 1) (a := a4) (c := c4) (m := px.length)) (by exact Take.ent' (by repeat' constructor)) rfl hkl (by rw [Xt, trf_len]; exact hkl) ?_)))
   refine s_sto (a := a4) rfl rfl rfl (by repeat' constructor) (by rw [Xt, trf_len]; exact hkl) ?_
   rw [pxs_set, trf_set hkl]
   refine WpL.nil (Qa (QE rfl rfl rfl (Qt (by omega) (by omega)) ?_))
   refine Qd rfl rfl (WpL.nil (Qy (k + 1) ?_ ?_ (by ((repeat (first | exact Top.refl | refine Top.push rfl ?_)); done)) (by repeat (first | exact FrLe.nil | refine FrLe.cons rfl ?_)) ?_))
   ·omega
   ·omega
   ·exact Ent.refl _
  ·obtain rfl : k = px.length := by omega
   rw [trf_all]
   refine QL (Qb (Qa (Qj (o2 := 0) rfl rfl rfl ?_)))
   refine Qz (vs := [_, _]) rfl rfl rfl (by rfl) ?_
   refine Qj (o2 := 2) rfl rfl rfl (Qj (o2 := 2) rfl rfl rfl (Qo rfl rfl (by rfl) ?_))
   refine Qj (o2 := 2) rfl rfl rfl (Qj (o2 := 3) rfl rfl rfl (Qo rfl rfl (by rfl) ?_))
   refine Qd rfl rfl ?_
   refine XN rfl rfl ?_
   refine XN rfl rfl ?_
   refine QY rfl rfl rfl (by rfl) rfl ?_
   refine Qe rfl rfl (WpL.nil (Qh ?_))
   apply RetQ.mk
   ·exact (Xl rfl rfl (by rfl) rfl)
   ·exact ⟨a4, c4, rfl, rfl⟩
   ·exact Take.ent' (by repeat' constructor)

theorem iTurnedNo_spec (A0 : HP) (C M W H : Int) (a : Option Addr) (c : Nat) (px : List Int) (hA : RdsL [A0] a (Q5 px)) (hb : ∀ p ∈ px, 0 ≤ p ∧ p < 18446744073709551616) (hl : px.length ≤ 1000000000) (hF : ¬ X7 C M W H px) : Fn Tryz.prog 53 #[.agg #[.int .i64 C, .int .i64 M, .int .i64 W, .int .i64 H, .slice a px.length c]] [A0] (fun v l => v = .tuple #[.agg #[.int .i64 0, .int .i64 0, .int .i64 0, .int .i64 0, .slice none 0 0], .int .i64 1] ∧ l = [A0]) := by
 refine Qk (vs := [.agg #[.int .i64 C, .int .i64 M, .int .i64 W, .int .i64 H, .slice a px.length c]]) Tryz.func53 rfl Tryz.ntmps53 rfl (Qb (Qa (QP rfl rfl rfl ?_)))
 intro gI
 refine XK rfl ?_
 intro gR
 refine Qe rfl rfl (WpL.nil (Qb (Qb (Qa ?_))))
 refine Qz (vs := [_, _, _, _, _]) rfl rfl rfl (by rfl) ?_
 refine Qg rfl rfl (by repeat' constructor) (iMay_spec [A0] C M W H a c px hA hb (by omega)) ?_
 rintro _ _ ⟨rfl, rfl⟩
 simp only [Qr]
 rw [decide_eq_false hF]
 refine YM rfl rfl (WpL.nil (XG rfl (Qb (Qa ?_))))
 refine XN rfl rfl ?_
 refine QY rfl rfl rfl (by rfl) rfl ?_
 refine Qe rfl rfl (WpL.nil (Qh ?_))
 apply RetQ.mk
 ·exact (Xl rfl rfl (by rfl) rfl)
 ·exact ⟨rfl, rfl⟩
 ·exact Take.ent' (by repeat' constructor)

end Go.Proofs.YtggamdlpiejbiaaGreat
namespace Go.Proofs.YtggamdlpiejbiaaGreat
open Go.RowKit Go.Shelf

theorem turn_xs {C M p : Int} (hc : Can C M p) : (((Qp p).map (M - ·)).length : Int) = C ∧ ∀ x ∈ (Qp p).map (M - ·), 0 ≤ x ∧ x ≤ M := by
  obtain ⟨h1, _, h3⟩ := hc
  refine ⟨by rw [List.length_map]; exact h1, fun x hx => ?_⟩
  obtain ⟨y, hy, rfl⟩ := List.mem_map.1 hx
  have := h3 y hy
  omega
theorem turn_can {C M p : Int} (hC : C = 1 ∨ C = 3) (hM : 1 ≤ M ∧ M ≤ 65535) (hc : Can C M p) : Can C M (YA M p) ∧ 0 ≤ YA M p ∧ YA M p < 18446744073709551616 := can_good hC hM (turn_xs hc).1 (turn_xs hc).2
theorem turn_turn {C M p : Int} (hC : C = 1 ∨ C = 3) (hM : 1 ≤ M ∧ M ≤ 65535) (hc : Can C M p) : YA M (YA M p) = p := by
  obtain ⟨h1, h2⟩ := turn_xs hc
  have hu : Qp (YA M p) = (Qp p).map (M - ·) := unpack_pack (by omega) (fun n hn => by have := h2 n hn; unfold smp; omega)
  have hm : ((Qp p).map (M - ·)).map (M - ·) = Qp p := by
    rw [List.map_map]
    conv => rhs; rw [← List.map_id (Qp p)]
    refine List.map_congr_left fun x _ => ?_
    simp only [Function.comp, id]
    omega
  rw [YA, hu, hm]
  exact hc.2.1
/-- An image, dark for light. -/
def tI (m : Img) : Img := ⟨m.c, m.m, m.w, m.h, m.px.map (YA m.m)⟩
theorem good_turn {most : Int} {m : Img} (h : YH most m) : YH most (tI m) := by
  obtain ⟨h1, h2, h3, h4, h5, h6⟩ := h
  refine ⟨h1, h2, h3, h4, by unfold tI; rw [List.length_map]; exact h5, fun p hp => ?_⟩
  obtain ⟨q, hq, rfl⟩ := List.mem_map.1 hp
  exact turn_can h1 h2 (h6 q hq).1
theorem tI_tI {most : Int} {m : Img} (h : YH most m) : tI (tI m) = m := by
  obtain ⟨c, mm, w, hh, px⟩ := m
  obtain ⟨h1, h2, _, _, _, h6⟩ := h
  dsimp only at h1 h2 h6
  unfold tI
  dsimp only
  congr 1
  rw [List.map_map]
  conv => rhs; rw [← List.map_id px]
  exact List.map_congr_left fun p hp => turn_turn h1 h2 (h6 p hp).1
theorem good_fit {most : Int} {m : Img} (hmo : most ≤ 100) (h : YH most m) : X7 m.c m.m m.w m.h m.px := by
  have hf := good_fmt h
  obtain ⟨z, hz⟩ := List.exists_mem_of_length_pos (kinds_posF hf)
  exact (good_fits hmo h hz).2.2
theorem partL_map (f : Int → Int) (px : List Int) (W x y w : Nat) : ∀ k, Xf (px.map f) W x y w k = (Xf px W x y w k).map f
  | 0 => rfl
  | k + 1 => by rw [Xf, Xf, List.map_append, partL_map f px W x y w k, List.map_take, List.map_drop]
theorem partL_mem {px : List Int} {W x y w : Nat} : ∀ {k : Nat} {p : Int}, p ∈ Xf px W x y w k → p ∈ px
  | 0, _, h => by cases h
  | k + 1, p, h => by
    rw [Xf] at h
    rcases List.mem_append.1 h with h | h
    · exact partL_mem h
    · exact List.mem_of_mem_drop (List.mem_of_mem_take h)
theorem has_turn {C M : Int} (hC : C = 1 ∨ C = 3) (hM : 1 ≤ M ∧ M ≤ 65535) {px qx : List Int} (hp : ∀ p ∈ px, Can C M p) (hq : ∀ p ∈ qx, Can C M p) (W H w h : Nat) : Q7 (px.map (YA M)) W H (qx.map (YA M)) w h = Q7 px W H qx w h := by
  funext x y
  unfold Q7
  refine decide_eq_decide.2 (and_congr_right fun _ => ?_)
  rw [partL_map]
  refine ⟨fun e => ?_, fun e => by rw [e]⟩
  have e2 := congrArg (List.map (YA M)) e
  rw [List.map_map, List.map_map] at e2
  have i1 : ∀ l : List Int, (∀ p ∈ l, Can C M p) → l.map (YA M ∘ YA M) = l := fun l hl => by
    conv => rhs; rw [← List.map_id l]
    exact List.map_congr_left fun p hp => turn_turn hC hM (hl p hp)
  rwa [i1 _ (fun p h => hp p (partL_mem h)), i1 _ hq] at e2
theorem ig_turn {a b : Int} {x y : Img} (hx : YH a x) (hy : YH b y) : igX (tI x) (tI y) = igX x y := by
  unfold igX igF tI
  dsimp only
  by_cases e : [x.c, x.m] ≠ [y.c, y.m]
  · rw [if_pos e, if_pos e]
  · rw [if_neg e, if_neg e]
    have e2 := Classical.not_not.1 e
    obtain ⟨e3, e4⟩ : x.c = y.c ∧ x.m = y.m := by simpa using e2
    rw [← e4, has_turn hx.1 hx.2.1 (fun p hp => (hx.2.2.2.2.2 p hp).1) (fun p hp => by rw [e3, e4]; exact (hy.2.2.2.2.2 p hp).1)]

end Go.Proofs.YtggamdlpiejbiaaGreat
namespace Go.Proofs.YtggamdlpiejbiaaGreat
open Go.RowKit Go.Shelf


theorem Zm (A0 : HP) (x : Img) (most : Int) (hmo : most ≤ 100) (hg : YH most x) (a : Option Addr) (c : Nat) (hA : RdsL [A0] a (Q5 x.px)) : Fn Tryz.prog 53 #[.agg (mC x a c).toArray] [A0] (fun v l => ∃ a' c', v = .tuple #[.agg #[.int .i64 (tI x).c, .int .i64 (tI x).m, .int .i64 (tI x).w, .int .i64 (tI x).h, .slice a' (tI x).px.length c'], .int .i64 0] ∧ l = [QG 92 1 a' c' (tI x).px.length (Q5 (tI x).px), A0]) := by
  have hz := good_sz hmo hg
  have hl : (tI x).px.length = x.px.length := List.length_map _
  rw [hl]
  refine (iTurned_spec A0 x.c x.m x.w x.h a c x.px hA (fun p hp => (hg.2.2.2.2.2 p hp).2) (by omega) (good_fit hmo hg)).mono ?_
  rintro v l ⟨a', c', rfl, rfl⟩
  exact ⟨_, ⟨a', c', rfl, rfl⟩, Ent.refl _⟩
theorem no_zero : ¬ X7 0 0 0 0 [] := fun h => by have := h.1.1; omega

set_option maxHeartbeats 2000000 in
theorem lTurns_spec (A0 : HP) (g : GS) (hg1 : ∀ x ∈ g.zs, -9223372036854775808 ≤ x ∧ x < 9223372036854775808) (hg2 : g.zs.length ≤ 9223372036854775807) (hg3 : RdsL [A0] g.a (QU g.zs)) (hg4 : -9223372036854775808 ≤ g.mx ∧ g.mx < 9223372036854775808) (hg5 : -9223372036854775808 ≤ g.w ∧ g.w < 9223372036854775808) (hg6 : -9223372036854775808 ≤ g.h ∧ g.h < 9223372036854775808) (b : GS) (hb1 : ∀ x ∈ b.zs, -9223372036854775808 ≤ x ∧ x < 9223372036854775808) (hb2 : b.zs.length ≤ 9223372036854775807) (hb3 : RdsL [A0] b.a (QU b.zs)) (_hb4 : -9223372036854775808 ≤ b.mx ∧ b.mx < 9223372036854775808) (hb5 : -9223372036854775808 ≤ b.w ∧ b.w < 9223372036854775808) (hb6 : -9223372036854775808 ≤ b.h ∧ b.h < 9223372036854775808) : Fn Tryz.prog 13 #[.agg (gC g).toArray, .agg #[.bool b.three, .int .i64 b.mx, .int .i64 b.w, .int .i64 b.h, .slice b.a b.zs.length b.c]] [A0] (fun v l => v = .bool true ∧ l = [A0]) := by
 refine Qk (vs := [.agg (gC g).toArray, .agg #[.bool b.three, .int .i64 b.mx, .int .i64 b.w, .int .i64 b.h, .slice b.a b.zs.length b.c]]) Tryz.func13 rfl Tryz.ntmps13 rfl (Qb (Qa (QP rfl rfl rfl ?_)))
 intro gA
 refine QP rfl rfl rfl ?_
 intro gB
 refine Qe rfl rfl (WpL.nil (Qb (Qa ?_)))
 refine Qz (vs := [_, _, _, _, _]) rfl rfl rfl (by rfl) ?_
 refine Qg rfl rfl (by repeat' constructor) (rGood10_spec A0 g.three g.mx g.w g.h g.a g.c g.zs hg1 hg2 hg3 hg4 hg5 hg6 8 (by omega)) ?_
 rintro _ _ ⟨m, a1, c1, hgm, rfl, rfl⟩
 simp only [Qr]
 refine YB (T := 92) (s := 1) (a := a1) (c := c1) (by repeat' constructor) (fun hgmc => ?_)
 refine XK rfl ?_
 intro gM
 refine QY rfl rfl rfl (by rfl) rfl ?_
 refine WpL.nil (Qb (Qa (Qj (o2 := 0) rfl rfl rfl (Qo rfl rfl (by rfl) ?_))))
 refine Qj (o2 := 0) rfl rfl rfl (Q0 rfl rfl rfl (WpL.nil (Qb (Qa (Qj (o2 := 1) rfl rfl rfl (Qo rfl rfl (by rfl) ?_))))))
 refine Qj (o2 := 1) rfl rfl rfl (Q0 rfl rfl rfl (WpL.nil (Qb (Qa ?_))))
 refine Qz (vs := [_, _, _, _, _]) rfl rfl rfl (by rfl) ?_
 refine Qg rfl rfl (by repeat' constructor) (rGood10_spec A0 g.three g.mx b.w b.h b.a b.c b.zs hb1 hb2 hb3 hg4 hb5 hb6 2 (by omega)) ?_
 rintro _ _ ⟨o, a2, c2, hgo, rfl, rfl⟩
 simp only [Qr]
 refine YB (T := 92) (s := 1) (a := a2) (c := c2) (by repeat' constructor) (fun hgoc => ?_)
 refine XK rfl ?_
 intro gO
 refine QY rfl rfl rfl (by rfl) rfl ?_
 refine WpL.nil (Qb (Qa ?_))
 refine Qz (vs := [_, _, _, _, _]) rfl rfl rfl (by rfl) ?_
 refine Qg rfl rfl (by repeat' constructor) (of10_spec m a1 c1) ?_
 rintro _ _ ⟨rfl, rfl⟩
 simp only [Qr]
 refine Qg rfl rfl (by repeat' constructor) (Zm (QG 92 1 a1 c1 m.px.length (Q5 m.px)) m 8 (by omega) hgm a1 c1 QI) ?_
 rintro _ _ ⟨aT, cT, rfl, rfl⟩
 simp only [Qr]
 refine YB (T := 92) (s := 1) (a := aT) (c := cT) (by repeat' constructor) (fun haT => ?_)
 refine Qd rfl rfl (QC rfl rfl rfl (QC rfl rfl rfl (XK rfl ?_)))
 intro gT
 refine QY rfl rfl rfl (by rfl) rfl ?_
 refine Qe rfl rfl (WpL.nil (Qb (Qa ?_)))
 refine Qz (vs := [_, _, _, _, _]) rfl rfl rfl (by rfl) ?_
 refine Qg rfl rfl (by repeat' constructor) (of10_spec o a2 c2) ?_
 rintro _ _ ⟨rfl, rfl⟩
 simp only [Qr]
 refine Qg rfl rfl (by repeat' constructor) (Zm (QG 92 1 a2 c2 o.px.length (Q5 o.px)) o 2 (by omega) hgo a2 c2 QI) ?_
 rintro _ _ ⟨aU, cU, rfl, rfl⟩
 simp only [Qr]
 refine YB (T := 92) (s := 1) (a := aU) (c := cU) (by repeat' constructor) (fun haU => ?_)
 refine Qd rfl rfl (QC rfl rfl rfl (QC rfl rfl rfl (XK rfl ?_)))
 intro gU
 refine QY rfl rfl rfl (by rfl) rfl ?_
 refine Qe rfl rfl (WpL.nil (Qb (Qa ?_)))
 refine Qz (vs := [_, _, _, _, _]) rfl rfl rfl (by rfl) ?_
 refine Qg rfl rfl (by repeat' constructor) (Zm (QG 92 1 aT cT (tI m).px.length (Q5 (tI m).px)) (tI m) 8 (by omega) (good_turn hgm) aT cT QI) ?_
 rintro _ _ ⟨aV, cV, rfl, rfl⟩
 simp only [Qr]
 rw [tI_tI hgm]
 have hmz := good_sz (by omega) hgm
 refine Qd rfl rfl (QC rfl rfl rfl (QC rfl rfl rfl (XK rfl ?_)))
 intro gV
 refine QY rfl rfl rfl (by rfl) rfl ?_
 refine Qe rfl rfl (WpL.nil (QT (gr := [(5, _), (6, _), (7, _), (8, _), (9, _), (10, _), (11, _), (12, _)]) (FrLe.cons rfl (FrLe.cons rfl (FrLe.cons rfl (FrLe.cons rfl (FrLe.cons rfl (FrLe.cons rfl (FrLe.cons rfl (FrLe.cons rfl FrLe.nil)))))))) ?_))
 refine Qb (Qb ?_)
 apply QS mixed [⟨45, _, []⟩, ⟨46, _, [0]⟩, ⟨47, _, [1]⟩, ⟨48, _, [2]⟩, ⟨49, _, [3, 2]⟩, ⟨50, _, [2, 4]⟩, ⟨51, _, [5, 2]⟩, ⟨52, _, [6]⟩, ⟨53, _, [7, 6]⟩, ⟨54, _, [6, 8]⟩, ⟨55, _, [9, 6]⟩, ⟨56, _, [10]⟩, ⟨57, _, [11, 10]⟩, ⟨58, _, [10]⟩, ⟨59, _, [12, 13, 10]⟩, ⟨60, _, [14, 10]⟩, ⟨61, _, [10, 15]⟩, ⟨62, _, [16, 14]⟩, ⟨63, _, [17]⟩, ⟨64, _, [18, 17]⟩, ⟨65, _, [19, 17]⟩, ⟨66, _, [20, 17]⟩, ⟨67, _, [17]⟩, ⟨68, _, [22, 17]⟩, ⟨69, _, [23, 17]⟩, ⟨70, _, [24, 17]⟩, ⟨71, _, [21, 25, 17]⟩, ⟨72, _, [17, 26]⟩] rfl
 ·refine AllObs.mk ?_ ?_
  ·exact Qd rfl rfl (Ql rfl)
  refine AllObs.mk ?_ ?_
  ·exact Xj rfl rfl rfl (Ql rfl)
  refine AllObs.mk ?_ ?_
  ·exact Qd rfl rfl (Ql rfl)
  refine AllObs.mk ?_ ?_
  ·refine Qu (dj := 47) rfl (decide_eq_false (fun h => h rfl)) ?_
   exact Qf rfl rfl (Qd rfl rfl (Ql rfl))
  refine AllObs.mk ?_ ?_
  ·refine Qu (dj := 47) rfl (decide_eq_false (fun h => h rfl)) ?_
   exact Qf rfl rfl (Xj rfl rfl rfl (Ql rfl))
  refine AllObs.mk ?_ ?_
  ·refine Qu (dj := 47) rfl (decide_eq_false (fun h => h rfl)) ?_
   exact Qq rfl rfl rfl (Ql rfl)
  refine AllObs.mk ?_ ?_
  ·exact Qd rfl rfl (Ql rfl)
  refine AllObs.mk ?_ ?_
  ·refine Qu (dj := 51) rfl (decide_eq_false (fun h => h rfl)) ?_
   exact Qf rfl rfl (Qd rfl rfl (Ql rfl))
  refine AllObs.mk ?_ ?_
  ·refine Qu (dj := 51) rfl (decide_eq_false (fun h => h rfl)) ?_
   exact Qf rfl rfl (Xj rfl rfl rfl (Ql rfl))
  refine AllObs.mk ?_ ?_
  ·refine Qu (dj := 51) rfl (decide_eq_false (fun h => h rfl)) ?_
   exact Qq rfl rfl rfl (Ql rfl)
  refine AllObs.mk ?_ ?_
  ·exact Qd rfl rfl (Ql rfl)
  refine AllObs.mk ?_ ?_
  ·refine Qu (dj := 55) rfl (decide_eq_false (fun h => h rfl)) ?_
   refine Qf rfl rfl ?_
   refine Qz (vs := [_, _, _, _, _]) rfl rfl rfl (by rfl) ?_
   exact Ql rfl
  refine AllObs.mk ?_ ?_
  ·refine Qu (dj := 55) rfl (decide_eq_false (fun h => h rfl)) ?_
   refine Qf rfl rfl (Qg rfl rfl (by repeat' constructor) (as10_spec m aV cV) ?_)
   rintro _ _ ⟨rfl, rfl⟩
   simp only [Qr]
   exact WpL.nil ⟨rfl, rfl, rfl, by exact Ent.refl _⟩
  refine AllObs.mk ?_ ?_
  ·refine Qu (dj := 55) rfl (decide_eq_false (fun h => h rfl)) ?_
   refine Qf rfl rfl ?_
   refine Qz (vs := [_, _, _, _, _]) rfl rfl rfl (by rfl) ?_
   exact Ql rfl
  refine AllObs.mk ?_ ?_
  ·refine Qu (dj := 55) rfl (decide_eq_false (fun h => h rfl)) ?_
   refine Qf rfl rfl (Qg rfl rfl (by repeat' constructor) (Same10_true [QG 92 1 aV cV m.px.length (Q5 m.px), QG 92 1 a1 c1 m.px.length (Q5 m.px)] m aV a1 cV c1 QI.head QI.tail (by omega)) ?_)
   rintro _ _ ⟨rfl, rfl⟩
   simp only [Qr]
   exact WpL.nil ⟨rfl, rfl, rfl, by exact Take.ent' (by repeat' constructor)⟩
  refine AllObs.mk ?_ ?_
  ·refine Qu (dj := 55) rfl (decide_eq_false (fun h => h rfl)) ?_
   exact Qf rfl rfl (YM rfl rfl (Ql rfl))
  refine AllObs.mk ?_ ?_
  ·refine Qu (dj := 55) rfl (decide_eq_false (fun h => h rfl)) ?_
   exact Qq rfl rfl rfl (Ql rfl)
  refine AllObs.mk ?_ ?_
  ·exact Qd rfl rfl (Ql rfl)
  refine AllObs.mk ?_ ?_
  ·exact Qf rfl rfl (Qj (o2 := 2) rfl rfl rfl (Ql rfl))
  refine AllObs.mk ?_ ?_
  ·exact Qf rfl rfl (Qj (o2 := 4) rfl rfl rfl (Ql rfl))
  refine AllObs.mk ?_ ?_
  ·refine Qf rfl rfl (Qo rfl rfl (by rfl) ?_)
   exact Ql rfl
  refine AllObs.mk ?_ ?_
  ·exact Qf rfl rfl (QK rfl rfl (WpL.nil ⟨rfl, rfl, rfl, by exact Ent.refl _⟩))
  refine AllObs.mk ?_ ?_
  ·exact Qf rfl rfl (Qj (o2 := 2) rfl rfl rfl (Ql rfl))
  refine AllObs.mk ?_ ?_
  ·exact Qf rfl rfl (Qj (o2 := 4) rfl rfl rfl (Ql rfl))
  refine AllObs.mk ?_ ?_
  ·refine Qf rfl rfl (Qo rfl rfl (by rfl) ?_)
   exact Ql rfl
  refine AllObs.mk ?_ ?_
  ·exact Qf rfl rfl (QK rfl rfl (WpL.nil ⟨rfl, rfl, rfl, by exact Ent.refl _⟩))
  refine AllObs.mk ?_ ?_
  ·exact Qf rfl rfl (Xj rfl rfl rfl (Ql rfl))
  refine AllObs.mk ?_ ?_
  ·exact Qq rfl rfl rfl (Ql rfl)
  exact AllObs.nil
 ·refine QT (gr := [(5, _), (6, _), (7, _), (9, _), (72, _)]) (FrLe.cons rfl (FrLe.cons rfl (FrLe.cons rfl (FrLe.cons rfl (FrLe.cons rfl FrLe.nil))))) ?_
  refine QA rfl (fun h => h (congrArg (fun n : Nat => (n : Int)) (show (tI m).px.length = m.px.length from List.length_map _))) ?_
  refine Wp.skip (Qb (Qb (Qa (Qe rfl rfl (WpL.nil (QT (gr := [(5, _), (6, _), (7, _), (9, _), (13, _)]) (FrLe.cons rfl (FrLe.cons rfl (FrLe.cons rfl (FrLe.cons rfl (FrLe.cons rfl FrLe.nil))))) ?_))))))
  refine Wp.block ?_
  refine Wp.ent (m := [QB gM [.int .i64 m.c, .int .i64 m.m, .int .i64 m.w, .int .i64 m.h, .slice a1 m.px.length c1] 71, QB gO [.int .i64 o.c, .int .i64 o.m, .int .i64 o.w, .int .i64 o.h, .slice a2 o.px.length c2] 71, QB gT [.int .i64 (tI m).c, .int .i64 (tI m).m, .int .i64 (tI m).w, .int .i64 (tI m).h, .slice aT (tI m).px.length cT] 79, QB gU [.int .i64 (tI o).c, .int .i64 (tI o).m, .int .i64 (tI o).w, .int .i64 (tI o).h, .slice aU (tI o).px.length cU] 79, many [QG 92 1 a1 c1 m.px.length (Q5 m.px), QG 92 1 a2 c2 o.px.length (Q5 o.px), QG 92 1 aT cT (tI m).px.length (Q5 (tI m).px), QG 92 1 aU cU (tI o).px.length (Q5 (tI o).px)], A0]) (Ent.trans (Take.ent' (pre := [QB gM [.int .i64 m.c, .int .i64 m.m, .int .i64 m.w, .int .i64 m.h, .slice a1 m.px.length c1] 71, QB gO [.int .i64 o.c, .int .i64 o.m, .int .i64 o.w, .int .i64 o.h, .slice a2 o.px.length c2] 71, QB gT [.int .i64 (tI m).c, .int .i64 (tI m).m, .int .i64 (tI m).w, .int .i64 (tI m).h, .slice aT (tI m).px.length cT] 79, QB gU [.int .i64 (tI o).c, .int .i64 (tI o).m, .int .i64 (tI o).w, .int .i64 (tI o).h, .slice aU (tI o).px.length cU] 79, QG 92 1 a1 c1 m.px.length (Q5 m.px), QG 92 1 a2 c2 o.px.length (Q5 o.px), QG 92 1 aT cT (tI m).px.length (Q5 (tI m).px), QG 92 1 aU cU (tI o).px.length (Q5 (tI o).px), A0]) (by repeat' constructor)) (Ent.cons (Ent.cons (Ent.cons (Ent.cons (Ent.many (Ent.refl _))))))) ?_
  have hmA : RdsL [many [QG 92 1 a1 c1 m.px.length (Q5 m.px), QG 92 1 a2 c2 o.px.length (Q5 o.px), QG 92 1 aT cT (tI m).px.length (Q5 (tI m).px), QG 92 1 aU cU (tI o).px.length (Q5 (tI o).px)]] a1 (Q5 m.px) := QI.ent (many_mem (A := QG 92 1 a1 c1 m.px.length (Q5 m.px)) List.mem_cons_self)
  have hoA : RdsL [many [QG 92 1 a1 c1 m.px.length (Q5 m.px), QG 92 1 a2 c2 o.px.length (Q5 o.px), QG 92 1 aT cT (tI m).px.length (Q5 (tI m).px), QG 92 1 aU cU (tI o).px.length (Q5 (tI o).px)]] a2 (Q5 o.px) := QI.ent (many_mem (A := QG 92 1 a2 c2 o.px.length (Q5 o.px)) (List.mem_cons_of_mem _ List.mem_cons_self))
  have htA : RdsL [many [QG 92 1 a1 c1 m.px.length (Q5 m.px), QG 92 1 a2 c2 o.px.length (Q5 o.px), QG 92 1 aT cT (tI m).px.length (Q5 (tI m).px), QG 92 1 aU cU (tI o).px.length (Q5 (tI o).px)]] aT (Q5 (tI m).px) := QI.ent (many_mem (A := QG 92 1 aT cT (tI m).px.length (Q5 (tI m).px)) (List.mem_cons_of_mem _ (List.mem_cons_of_mem _ List.mem_cons_self)))
  have huA : RdsL [many [QG 92 1 a1 c1 m.px.length (Q5 m.px), QG 92 1 a2 c2 o.px.length (Q5 o.px), QG 92 1 aT cT (tI m).px.length (Q5 (tI m).px), QG 92 1 aU cU (tI o).px.length (Q5 (tI o).px)]] aU (Q5 (tI o).px) := QI.ent (many_mem (A := QG 92 1 aU cU (tI o).px.length (Q5 (tI o).px)) (List.mem_cons_of_mem _ (List.mem_cons_of_mem _ (List.mem_cons_of_mem _ List.mem_cons_self))))
  generalize many [QG 92 1 a1 c1 m.px.length (Q5 m.px), QG 92 1 a2 c2 o.px.length (Q5 o.px), QG 92 1 aT cT (tI m).px.length (Q5 (tI m).px), QG 92 1 aU cU (tI o).px.length (Q5 (tI o).px)] = B2 at *
  refine Wp.loopD (σ := Nat) (fun k => k ≤ m.px.length) [4, 13, 14, 15, 73, 74, 75, 76, 77, 78, 79, 80, 81, 82, 83, 84, 85, 86, 87, 88, 89, 90, 91, 92, 93, 94, 95, 96, 97, 98, 99, 100] (fun k => [(13, .int .i64 (k : Int))]) (fun k => [QB gM [.int .i64 m.c, .int .i64 m.m, .int .i64 m.w, .int .i64 m.h, .slice a1 m.px.length c1] 71, QB gO [.int .i64 o.c, .int .i64 o.m, .int .i64 o.w, .int .i64 o.h, .slice a2 o.px.length c2] 71, QB gT [.int .i64 (tI m).c, .int .i64 (tI m).m, .int .i64 (tI m).w, .int .i64 (tI m).h, .slice aT (tI m).px.length cT] 79, QB gU [.int .i64 (tI o).c, .int .i64 (tI o).m, .int .i64 (tI o).w, .int .i64 (tI o).h, .slice aU (tI o).px.length cU] 79, B2, A0]) (fun k => m.px.length - k) 0 ?_ (by repeat (first | exact FrLe.nil | refine FrLe.cons rfl ?_)) ?_ ?_
  ·exact Nat.zero_le _
  ·exact Ent.refl _
  ·rintro k hk
   refine Qb (Qb (Qa (Qd rfl rfl (Qj (o2 := 2) rfl rfl rfl (Qj (o2 := 4) rfl rfl rfl (Qo rfl rfl (by rfl) ?_))))))
   refine QK rfl rfl (Q6 rfl rfl rfl (WpL.nil (QT (gr := [(5, _), (6, _), (7, _), (9, _), (13, _), (78, _)]) (FrLe.cons rfl (FrLe.cons rfl (FrLe.cons rfl (FrLe.cons rfl (FrLe.cons rfl (FrLe.cons rfl FrLe.nil)))))) ?_)))
   refine Qm rfl (fun h2 => ?_) (fun h2 => ?_)
   ·have hkl : k < m.px.length := by omega
    have hkt : k < (tI m).px.length := by rw [show (tI m).px.length = m.px.length from List.length_map _]; exact hkl
    have hpk := (hgm.2.2.2.2.2 _ (List.getElem_mem hkl)).2
    have hfk := (good_fit (by omega) hgm).2.2 _ (List.getElem_mem hkl)
    refine Wp.skip (Qb (Wp.block ?_))
    refine Qb ?_
    apply QS mixed [⟨82, _, []⟩, ⟨83, _, [0]⟩, ⟨84, _, [1]⟩, ⟨85, _, []⟩, ⟨86, _, [2, 3]⟩, ⟨87, _, [4]⟩, ⟨88, _, []⟩, ⟨89, _, [6]⟩, ⟨90, _, [5, 7]⟩, ⟨81, _, [8]⟩, ⟨91, _, [9]⟩, ⟨92, _, [9]⟩, ⟨14, _, [10, 8, 0, 1, 2, 3, 4, 5, 6, 7, 9]⟩, ⟨15, _, [11, 12, 0, 1, 2, 3, 4, 5, 6, 7, 8, 9, 10]⟩] rfl
    ·refine AllObs.mk ?_ ?_
     ·exact Qj (o2 := 2) rfl rfl rfl (Ql rfl)
     refine AllObs.mk ?_ ?_
     ·exact Qj (o2 := 4) rfl rfl rfl (Ql rfl)
     refine AllObs.mk ?_ ?_
     ·refine Qo rfl rfl (by rfl) ?_
      exact Ql rfl
     refine AllObs.mk ?_ ?_
     ·exact Qd rfl rfl (Ql rfl)
     refine AllObs.mk ?_ ?_
     ·refine Q3 k rfl rfl rfl hmA (by exact Take.ent' (by repeat' constructor)) rfl hkl (by rw [Xt]; exact hkl) ?_
      exact Ql rfl
     refine AllObs.mk ?_ ?_
     ·refine Xb rfl rfl hmA (by exact Take.ent' (by repeat' constructor)) (Yg m.px hkl) ?_
      exact Ql rfl
     refine AllObs.mk ?_ ?_
     ·exact Qj (o2 := 0) rfl rfl rfl (Ql rfl)
     refine AllObs.mk ?_ ?_
     ·refine Qz (vs := [_, _]) rfl rfl rfl (by rfl) ?_
      exact Ql rfl
     refine AllObs.mk ?_ ?_
     ·refine Qg rfl rfl (by repeat' constructor) (rTurned_spec m.px[k] m.c m.m hpk.1 hpk.2 hfk) ?_
      rintro _ _ ⟨rfl, rfl⟩
      simp only [Qr]
      exact WpL.nil ⟨rfl, rfl, rfl, by exact Ent.refl _⟩
     refine AllObs.mk ?_ ?_
     ·exact Qd rfl rfl (Ql rfl)
     refine AllObs.mk ?_ ?_
     ·exact QC rfl rfl rfl (Ql rfl)
     refine AllObs.mk ?_ ?_
     ·exact QC rfl rfl rfl (Ql rfl)
     refine AllObs.mk ?_ ?_
     ·exact Qe rfl rfl (Ql rfl)
     refine AllObs.mk ?_ ?_
     ·exact Qe rfl rfl (Ql rfl)
     exact AllObs.nil
    ·refine QT (gr := [(5, _), (6, _), (7, _), (9, _), (13, _), (14, _)]) (FrLe.cons rfl (FrLe.cons rfl (FrLe.cons rfl (FrLe.cons rfl (FrLe.cons rfl (FrLe.cons rfl FrLe.nil)))))) ?_
     refine Qb (Qa (Qj (o2 := 2) rfl rfl rfl (Qj (o2 := 4) rfl rfl rfl (Qo rfl rfl (by rfl) ?_))))
     refine Qd rfl rfl (Q3 k rfl rfl rfl htA (by exact Take.ent' (by repeat' constructor)) rfl hkt (by rw [Xt]; exact hkt) ?_)
     refine Xb rfl rfl htA (by exact Take.ent' (by repeat' constructor)) (Yg (tI m).px hkt) ?_
     refine Qd rfl rfl (Xj rfl rfl rfl (WpL.nil (QA rfl (fun h => h (List.getElem_map _)) ?_)))
     refine Wp.skip (Qa (Qd rfl rfl (QE rfl rfl rfl (Qt (by omega) (by omega)) ?_)))
     refine Qe rfl rfl (WpL.nil (Qy (k + 1) ?_ ?_ (by exact Top.le (by repeat (first | exact FrLe.nil | refine FrLe.cons rfl ?_))) (by repeat (first | exact FrLe.nil | refine FrLe.cons rfl ?_)) ?_))
     ·omega
     ·omega
     ·exact Ent.refl _
   ·refine QL (Qb (Qa ?_))
    refine XN rfl rfl ?_
    refine Qg rfl rfl (by repeat' constructor) (iTurnedNo_spec A0 0 0 0 0 none 0 [] RdsL.nil (fun _ h => nomatch h) (by decide) no_zero) ?_
    rintro _ _ ⟨rfl, rfl⟩
    simp only [Qr]
    refine Qd rfl rfl (QC rfl rfl rfl (QC rfl rfl rfl (XK rfl ?_)))
    intro gW
    refine QY rfl rfl rfl (by rfl) rfl ?_
    refine Qe rfl rfl (WpL.nil (QT (gr := [(5, _), (6, _), (7, _), (9, _), (17, _)]) (FrLe.cons rfl (FrLe.cons rfl (FrLe.cons rfl (FrLe.cons rfl (FrLe.cons rfl FrLe.nil))))) ?_))
    refine Qb ?_
    apply XR (fB := [QB gM [.int .i64 m.c, .int .i64 m.m, .int .i64 m.w, .int .i64 m.h, .slice a1 m.px.length c1] 71, QB gO [.int .i64 o.c, .int .i64 o.m, .int .i64 o.w, .int .i64 o.h, .slice a2 o.px.length c2] 71]) [0, 1, 4, 5, 2, 3, 6, 7, 8, 9, 10, 11, 12, 13, 14, 15, 16] [106, 107, 110, 111, 108, 109, 112, 113, 114, 115, 116, 117, 118, 119, 120, 121, 4] 17 mixed (by kernel_rfl) [(4, false), (1, false)] (by kernel_rfl) (by kernel_rfl) (by kernel_rfl)
    apply GoR.segFX [⟨0, 106, _, [], false⟩, ⟨1, 107, _, [], false⟩, ⟨2, 110, _, [], true⟩, ⟨3, 111, _, [], true⟩] [] [0, 1] [109, 112, 113, 114, 115, 116, 117, 118, 119, 120, 121, 4] [109, 112, 113, 114, 115, 116, 117, 118, 119, 120, 121, 4, 110, 111] 108 (.inl ⟨_, by repeat' constructor⟩) rfl rfl rfl (by kernel_rfl) rfl (by kernel_rfl) rfl rfl rfl
    ·refine Qn 0 [] rfl rfl rfl rfl (by kernel_rfl) rfl ?_ ?_
     ·refine Qz (vs := [_, _, _, _, _]) rfl rfl rfl (by rfl) ?_
      exact Ql rfl
     refine Qn 1 [] rfl rfl rfl rfl (by kernel_rfl) rfl ?_ ?_
     ·refine Qz (vs := [_, _, _, _, _]) rfl rfl rfl (by rfl) ?_
      exact Ql rfl
     refine Qw 2 [] rfl rfl rfl rfl (by kernel_rfl) rfl ?_ ?_
     ·refine Qz (vs := [_, _, _, _, _]) rfl rfl rfl (by rfl) ?_
      exact Ql rfl
     refine Qw 3 [] rfl rfl rfl rfl (by kernel_rfl) rfl ?_ ?_
     ·refine Qz (vs := [_, _, _, _, _]) rfl rfl rfl (by rfl) ?_
      exact Ql rfl
     exact AllF.nil
    ·refine Qg rfl rfl (by repeat' constructor) (iFindX_spec B2 (tI m) (tI o) aT aU cT cU htA huA (good_le (good_turn hgm) (by omega)) (good_le (good_turn hgo) (by omega)) haT haU) ?_
     rintro _ _ ⟨aF, cF, rfl, rfl⟩
     simp only [Qr]
     rw [ig_turn hgm hgo]
     refine WpL.nil ⟨rfl, rfl, _, rfl, ?_⟩
     apply Q2 [⟨5, 109, _, [4], true⟩] [2, 3] [2, 3] [113, 114, 115, 116, 117, 118, 119, 120, 121, 4] [113, 114, 115, 116, 117, 118, 119, 120, 121, 4, 109] (.inl ⟨_, by repeat' constructor⟩) rfl rfl rfl (by kernel_rfl) rfl (by kernel_rfl) rfl rfl
     ·refine Qw 5 [4] rfl rfl rfl rfl (by kernel_rfl) rfl ?_ ?_
      ·exact QK rfl rfl (WpL.nil ⟨rfl, rfl, rfl, by exact Ent.refl _⟩)
      exact AllF.nil
     ·refine Qg rfl rfl (by repeat' constructor) (rFind10X_spec B2 m o a1 a2 c1 c2 hmA hoA (good_le hgm (by omega)) (good_le hgo (by omega)) hgmc hgoc) ?_
      rintro _ _ ⟨aG, cG, rfl, rfl⟩
      simp only [Qr]
      refine WpL.nil ⟨rfl, rfl, ?_⟩
      apply XP [⟨7, 113, _, [6], false⟩, ⟨8, 114, _, [5, 7], false⟩, ⟨9, 115, _, [6, 8], false⟩, ⟨10, 116, _, [9], false⟩, ⟨11, 117, _, [9, 10], false⟩, ⟨12, 118, _, [9, 11], false⟩, ⟨13, 119, _, [9, 12], false⟩, ⟨14, 120, _, [13], false⟩, ⟨15, 121, _, [13, 14], false⟩, ⟨16, 4, _, [0, 1, 2, 3, 4, 5, 6, 7, 8, 9, 10, 11, 12, 13, 14, 15], false⟩] 17 (by kernel_rfl) (.inl ⟨_, by repeat' constructor⟩) rfl rfl
      ·refine Qn 7 [6] rfl rfl rfl rfl (by kernel_rfl) rfl ?_ ?_
       ·exact QK rfl rfl (WpL.nil ⟨rfl, rfl, rfl, by exact Ent.refl _⟩)
       refine Qn 8 [5, 7] rfl rfl rfl rfl (by kernel_rfl) rfl ?_ ?_
       ·exact QO rfl rfl rfl (Ql rfl)
       refine Qn 9 [6, 8] rfl rfl rfl rfl (by kernel_rfl) rfl ?_ ?_
       ·exact Qd rfl rfl (Ql rfl)
       refine Qn 10 [9] rfl rfl rfl rfl (by kernel_rfl) rfl ?_ ?_
       ·refine Qv (dj := 115) rfl (decide_eq_true rfl) ?_
        exact Qf rfl rfl (Qd rfl rfl (Ql rfl))
       refine Qn 11 [9, 10] rfl rfl rfl rfl (by kernel_rfl) rfl ?_ ?_
       ·refine Qv (dj := 115) rfl (decide_eq_true rfl) ?_
        exact Qf rfl rfl (QO rfl rfl rfl (Ql rfl))
       refine Qn 12 [9, 11] rfl rfl rfl rfl (by kernel_rfl) rfl ?_ ?_
       ·refine Qv (dj := 115) rfl (decide_eq_true rfl) ?_
        exact Qx rfl rfl rfl (Ql rfl)
       refine Qn 13 [9, 12] rfl rfl rfl rfl (by kernel_rfl) rfl ?_ ?_
       ·exact Qd rfl rfl (Ql rfl)
       refine Qn 14 [13] rfl rfl rfl rfl (by kernel_rfl) rfl ?_ ?_
       ·refine Qv (dj := 119) rfl (decide_eq_true rfl) ?_
        refine Qf rfl rfl (Qg rfl rfl (by repeat' constructor) (lives10_spec) ?_)
        rintro _ _ ⟨rfl, rfl⟩
        simp only [Qr]
        exact WpL.nil ⟨rfl, rfl, rfl, by exact Ent.refl _⟩
       refine Qn 15 [13, 14] rfl rfl rfl rfl (by kernel_rfl) rfl ?_ ?_
       ·refine Qv (dj := 119) rfl (decide_eq_true rfl) ?_
        exact Qx rfl rfl rfl (Ql rfl)
       refine Qn 16 [0, 1, 2, 3, 4, 5, 6, 7, 8, 9, 10, 11, 12, 13, 14, 15] rfl rfl rfl rfl (by kernel_rfl) rfl ?_ ?_
       ·exact Qe rfl rfl (Ql rfl)
       exact AllF.nil
      ·refine Qh ?_
       apply RetQ.mk
       ·exact (Res.one rfl rfl)
       ·exact ⟨rfl, rfl⟩
       ·exact Take.ent' (by repeat' constructor)

end Go.Proofs.YtggamdlpiejbiaaGreat
