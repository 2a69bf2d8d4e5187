/- Walks and plain laws, a part of the proof of ImageCuts: every input that the law's guards let in, no condition beside. -/
import Derived.Test.YtggamdlpiejbiaaGreatM19
namespace Go.Proofs.YtggamdlpiejbiaaGreat
open Go.RowKit Go.Shelf


theorem row_putU {A R : List Int} {n st N : Nat} (hA : A.length = st * n) (hR : R.length = st) (hN : st * (n + 1) ≤ N) : (Xt (A ++ zs (N - st * n))).take (st * n) ++ Xt R ++ (Xt (A ++ zs (N - st * n))).drop (st * n + st) = Xt ((A ++ R) ++ zs (N - st * (n + 1))) := by
  rw [← row_put hA hR hN]
  simp [Xt, List.map_take, List.map_drop]
theorem wrap_u8 (x : Int) : IntKind.u8.wrap x = x % 256 := by simp [IntKind.wrap, IntKind.bits, IntKind.signed]
theorem encS1 (x : Int) : YA 1 x = [x] := rfl
theorem encS2 (x : Int) : YA 2 x = [x / 256, x % 256] := rfl

set_option maxHeartbeats 2000000 in
theorem RawWrite_a (A0 : HP) (a0 : Option Addr) (c0 : Nat) (px : List Int) (hA : RdsL [A0] a0 (XQ px)) (hr : ∀ p ∈ px, 0 ≤ p ∧ p < 18446744073709551616) (hc : px.length ≤ c0) (K : Int) (W Hn : Nat) (M : Int) (hR : RawH K (W : Int) (Hn : Int) M) (hpl : px.length = W * Hn) (hfit : ∀ p ∈ px, Yw p (QR K) M) (hK : K = 4) : Fn Tryz.prog 91 #[.slice a0 px.length c0, .agg #[.int .i64 K, .int .i64 (W : Int), .int .i64 (Hn : Int), .int .i64 M]] [A0] (fun v l => ∃ a c, v = .tuple #[.slice a (Xl K W (Qg M) px Hn).length c, .int .i64 0] ∧ (Xl K W (Qg M) px Hn).length ≤ c ∧ l = [QX 5 1 a c (Xl K W (Qg M) px Hn).length (Xt (Xl K W (Qg M) px Hn)), A0]) := by
 have hb := hR.bd
 have hch := Yk K
 have hw := Q1 M
 have hsb := XB (K := K) (W := W) hw (by omega) (by omega)
 have hWH : W * Hn ≤ 4096 * 65536 := Nat.mul_le_mul (by omega) (by omega)
 have hWHi : (W : Int) * (Hn : Int) = ((W * Hn : Nat) : Int) := by push_cast; rfl
 obtain ⟨st, hstd⟩ : ∃ st, st = QE K W (Qg M) := ⟨_, rfl⟩
 rw [← hstd] at hsb
 have hN : st * Hn ≤ 24576 * 65536 := Nat.mul_le_mul (by omega) (by omega)
 have hul : ∀ p ∈ px, (Qp p).length = (QR K).toNat := fun p hp => by have := ZZ (hfit p hp); omega
 refine Ql (vs := [.slice a0 px.length c0, .agg #[.int .i64 K, .int .i64 (W : Int), .int .i64 (Hn : Int), .int .i64 M]]) Tryz.func91 rfl Tryz.ntmps91 rfl (Qb (Qa (Q2 rfl rfl rfl ?_)))
 intro g1
 refine Qd rfl rfl (Qd rfl rfl (WpL.nil (Qb (Qa ?_))))
 refine Qw (vs := [_, _, _, _]) rfl rfl rfl (by rfl) ?_
 refine Qi rfl rfl (by repeat' constructor) (XT _ _ _ _ (by omega)) ?_
 rintro _ _ ⟨rfl, rfl⟩
 simp only [Qs]
 rw [show (if K % 3 = 0 then (3 : Int) else 1) = QR K from rfl]
 refine XH rfl ?_
 intro gF
 refine QC rfl rfl rfl (by rfl) rfl ?_
 refine WpL.nil (Qb (Qa (s_mkf rfl (fun a hh => Ys hh _ _ rfl) ?_)))
 refine Qd rfl rfl (WpL.nil (Qb (Qb (Qa ?_))))
 refine Qw (vs := [_, _, _, _]) rfl rfl rfl (by rfl) ?_
 refine Qi rfl rfl (by repeat' constructor) (ZX _ _ _ _ hR) ?_
 rintro _ _ ⟨gR, gB, b0, hb0, hb0z, rfl, rfl⟩
 simp only [Qs]
 refine Qc rfl rfl (QB rfl rfl rfl (QB rfl rfl rfl (Qd rfl rfl (Qd rfl rfl (WpL.nil (Qb (Qa (Qc rfl rfl (Xq rfl rfl rfl (Qc rfl rfl (Qv (dj := 28) rfl (by decide) ?_)))))))))))
 refine Qf rfl rfl (Qc rfl rfl (Qf rfl rfl (QO rfl rfl (Qf rfl rfl (Qk (o2 := 1) rfl rfl rfl (Qf rfl rfl (Qn rfl rfl (by rfl) ?_)))))))
 refine Qf rfl rfl (Qk (o2 := 2) rfl rfl rfl (Qf rfl rfl (Qn rfl rfl (by rfl) ?_)))
 refine Qf rfl rfl (Xv rfl rfl rfl (Qo (by omega) (by omega)) ?_)
 rw [hWHi]
 refine Qf rfl rfl (Xq rfl rfl rfl (Qt rfl rfl rfl (Qc rfl rfl (Qv (dj := 38) rfl (decide_eq_false (fun h => h (by omega))) ?_))))
 refine Qf rfl rfl (Qc rfl rfl (Qf rfl rfl (Qc rfl rfl (Qf rfl rfl (Qi rfl rfl (by repeat' constructor) (Zf A0 a0 c0 px hA hr (by omega) gF (QR K) M) ?_)))))
 rintro _ _ ⟨rfl, rfl⟩
 simp only [Qs]
 refine Qt rfl rfl rfl (WpL.nil (Qz rfl (fun h => h hfit) ?_))
 refine Wp.skip (Qb (Qa ?_))
 refine Qw (vs := [_, _, _, _]) rfl rfl rfl (by rfl) ?_
 refine Qi rfl rfl (by repeat' constructor) (Size_spec _ _ _ _ hR) ?_
 rintro _ _ ⟨rfl, rfl⟩
 simp only [Qs]
 rw [← hstd]
 refine s_mko (st * Hn) rfl rfl rfl (by omega) (by omega) rfl ?_
 intro gO
 rw [u8s_zero, show List.replicate (st * Hn) (0 : Int) = Xl K W (Qg M) px 0 ++ zs (st * Hn - st * 0) from rfl]
 refine Qd rfl rfl (WpL.nil (Qb (Qb (Qa (Qk (o2 := 2) rfl rfl rfl (Qn rfl rfl (by rfl) ?_))))))
 refine Qc rfl rfl (WpL.nil (Wp.block ?_))
 refine Wp.loopD (σ := WyX) (fun x => x.y ≤ Hn) [11, 12, 13, 15, 17, 48, 49, 50, 51, 52, 53, 54, 55, 56, 57, 58, 59, 60, 61, 62, 63, 64, 65, 66, 67, 68, 69, 70, 71, 72, 73, 74, 75, 76, 77, 78, 79, 80, 81, 82, 83, 84, 85, 86, 87, 88, 89, 90, 91, 92, 93, 94, 95, 96, 97, 98, 99, 100, 101, 102, 103, 104, 105, 106, 107, 108, 109, 110, 111, 112, 113, 114, 115, 116] (fun x => [(48, .int .i64 (x.y : Int))]) (fun x => [QX 5 1 (some ⟨gO, 0, none⟩) (st * Hn) (st * Hn) (Xt (Xl K W (Qg M) px x.y ++ zs (st * Hn - st * x.y))), QK g1 [.int .i64 K, .int .i64 (W : Int), .int .i64 (Hn : Int), .int .i64 M] 98, A0]) (fun x => Hn - x.y) ⟨0⟩ ?_ (by repeat (first | exact FrLe.nil | refine FrLe.cons rfl ?_)) ?_ ?_
 ·exact Nat.zero_le _
 ·exact Take.ent' (by repeat' constructor)
 ·rintro ⟨y⟩ hy
  dsimp only at hy ⊢
  refine Qb (Qa (Q8 rfl rfl rfl (WpL.nil (Qb (Qj rfl (fun h2 => ?_) (fun h2 => ?_))))))
  ·have hlt : y < Hn := by omega
   have hkW : (y + 1) * W = y * W + W := by rw [Nat.add_mul, Nat.one_mul]
   have hkW2 : (y + 1) * W ≤ Hn * W := Nat.mul_le_mul_right _ hlt
   rw [Nat.mul_comm Hn W] at hkW2
   have ei1 : (y : Int) * (W : Int) = ((y * W : Nat) : Int) := by push_cast; rfl
   have ei2 : ((y : Int) + 1) * (W : Int) = (((y + 1) * W : Nat) : Int) := by push_cast; rfl
   have hyN : st * (y + 1) ≤ st * Hn := Nat.mul_le_mul_left _ hlt
   have hyS : st * (y + 1) = st * y + st := by rw [Nat.mul_add, Nat.mul_one]
   have hyst : (y : Int) * (st : Int) = ((st * y : Nat) : Int) := by push_cast; rw [Int.mul_comm]
   refine Wp.skip (Qb (Wp.block ?_))
   refine Qb (Qa (Qc rfl rfl (Qd rfl rfl (WpL.nil (Qb (Qa (Qd rfl rfl (WpL.nil (Qb (Qa (Qd rfl rfl (WpL.nil ?_))))))))))))
   refine Qb (Qb (Qa (Qc rfl rfl (Qc rfl rfl (Qk (o2 := 1) rfl rfl rfl (Qn rfl rfl (by rfl) ?_))))))
   refine Xv rfl rfl rfl (Qo (by omega) (by omega)) ?_
   rw [ei1]
   refine Qc rfl rfl (QA rfl rfl rfl (Qo (by omega) (by omega)) ?_)
   refine Qk (o2 := 1) rfl rfl rfl (Qn rfl rfl (by rfl) ?_)
   refine Xv rfl rfl rfl (Qo (by omega) (by omega)) ?_
   rw [ei2]
   refine ZA (L := y * W) (H := (y + 1) * W) rfl rfl rfl rfl rfl rfl (by omega) (by omega) ?_
   refine QO rfl rfl (Qc rfl rfl (WpL.nil (Wp.block ?_)))
   have hRw := hA.sla (y * W) ((y + 1) * W) c0 1 (by omega)
   rw [pxs_sub] at hRw
   rw [show (y + 1) * W - y * W = W by omega] at hRw ⊢
   obtain ⟨row, hrow⟩ : ∃ row, row = (px.drop (y * W)).take W := ⟨_, rfl⟩
   have hrl : row.length = W := by rw [hrow, List.length_take, List.length_drop]; omega
   have hrp : ∀ p ∈ row, p ∈ px := fun p hp => by rw [hrow] at hp; exact List.mem_of_mem_drop (List.mem_of_mem_take hp)
   rw [← hrow] at hRw
   refine Wp.loopD (σ := WjX) (fun z => z.j ≤ W ∧ z.m = ((row.take z.j).flatMap Qp).length) [13, 15, 63, 64, 65, 66, 67, 68, 69, 70, 71] (fun z => [(63, .int .i64 (z.j : Int)), (13, .slice z.a z.m z.c)]) (fun z => [QX 3 1 z.a z.c z.m (Q5 ((row.take z.j).flatMap Qp)), QX 5 1 (some ⟨gO, 0, none⟩) (st * Hn) (st * Hn) (Xt (Xl K W (Qg M) px y ++ zs (st * Hn - st * y))), QK g1 [.int .i64 K, .int .i64 (W : Int), .int .i64 (Hn : Int), .int .i64 M] 98, A0]) (fun z => W - z.j) ⟨0, none, 0, 0⟩ ?_ (by repeat (first | exact FrLe.nil | refine FrLe.cons rfl ?_)) ?_ ?_
   ·exact ⟨Nat.zero_le _, rfl⟩
   ·exact Ent.own_nil (T := 3) (s := 1) (Ent.refl _)
   ·rintro ⟨j, aR, cR, m⟩ ⟨hj, hm⟩
    dsimp only at hj hm ⊢
    have hml := flat_le (row.take j)
    rw [← hm, List.length_take] at hml
    refine Qb (Qa (Q8 rfl rfl rfl (WpL.nil (Qb (Qj rfl (fun h4 => ?_) (fun h4 => ?_))))))
    ·have hlj : j < row.length := by omega
     have hpp := hrp _ (List.getElem_mem hlj)
     have hpb := hr _ hpp
     have hun := hul _ hpp
     have hul3 := XL (row[j]'hlj)
     refine Wp.skip (Qb (Wp.block ?_))
     refine Qb (Qa (Xg j rfl rfl rfl hRw (by exact Take.ent' (by repeat' constructor)) rfl (by omega) (by rw [Yh]; omega) ?_))
     refine Xk rfl rfl hRw (by exact Take.ent' (by repeat' constructor)) (Y6 row hlj) ?_
     refine Qd rfl rfl (WpL.nil (Qa (Qc rfl rfl (Qc rfl rfl (Qi rfl rfl (by repeat' constructor) (Yq _ hpb.1 hpb.2) ?_)))))
     rintro _ _ ⟨A1, a1, c1, rfl, rfl, hA1, hn1⟩
     simp only [Qs]
     refine s_appr rfl rfl rfl (by repeat' constructor) hA1 (by exact Take.ent' (by repeat' constructor)) (ints_ne (fun e => by rw [e] at hun; simp at hun; omega)) (by rw [Xf, Nat.mul_one]) (by rfl) (by rfl) (ints_one _) (by omega) (by omega) ?_
     intro a70 c70
     rw [ints_app, ZL hlj]
     refine Qd rfl rfl (WpL.nil (Qa (QA rfl rfl rfl (Qo (by omega) (by omega)) ?_)))
     refine Qc rfl rfl (WpL.nil (Qq (⟨j + 1, a70, c70, m + (Qp (row[j]'hlj)).length⟩ : WjX) ?_ ?_ (by ((repeat (first | exact Top.refl | refine Top.push rfl ?_)); done)) (by repeat (first | exact FrLe.nil | refine FrLe.cons rfl ?_)) ?_))
     ·exact ⟨by simp only; omega, by simp only; rw [← ZL hlj, List.length_append, ← hm]⟩
     ·simp only; omega
     ·exact Take.ent' (by repeat' constructor)
    ·have hje : j = row.length := by omega
     subst hje
     rw [List.take_length] at hm ⊢
     obtain ⟨rw_, hrw⟩ : ∃ q, q = row.flatMap Qp := ⟨_, rfl⟩
     rw [← hrw] at hm ⊢
     subst hm
     have hrwl : rw_.length = W * (QR K).toNat := by rw [hrw, Zw row (fun p hp => hul p (hrp p hp)), hrl]
     have hrwb : ∀ x ∈ rw_, 0 ≤ x ∧ x ≤ M := fun x hx => by
      rw [hrw] at hx
      obtain ⟨p, hp, hx⟩ := List.mem_flatMap.1 hx
      exact ⟨(YT p x hx).1, (hfit p (hrp p hp)).2.2 x hx⟩
     have hrwl2 : 1 ≤ rw_.length ∧ rw_.length ≤ 12288 := by rw [hrwl]; rcases hch with e | e <;> rw [e] <;> simp <;> omega
     have hRBl : (Zn K (Qg M) rw_).length = QE K W (Qg M) := by
      by_cases h9 : K = 4
      ·have e1 : (QR K).toNat = 1 := by rw [h9]; rfl
       rw [show Zn K (Qg M) rw_ = YB rw_ from if_pos h9, show QE K W (Qg M) = (W + 7) / 8 from if_pos h9, Zb, hrwl, e1, Nat.mul_one]
      ·rw [show Zn K (Qg M) rw_ = rw_.flatMap (YA (Qg M)) from if_neg h9, show QE K W (Qg M) = W * (QR K).toNat * Qg M from if_neg h9, Vu hw, hrwl]
     have hch1 : (QR K).toNat = 1 := by rw [hK]; rfl
     rw [hch1, Nat.mul_one] at hrwl
     refine QP (Qb (Qb (Qa (Qk (o2 := 0) rfl rfl rfl (Qn rfl rfl (by rfl) ?_)))))
     refine QH rfl rfl rfl (WpL.nil (QY rfl hK (Qa (Qc rfl rfl (Qi rfl rfl (by repeat' constructor) (PackB_spec _ _ _ rw_ Q0 (fun x hx => by have := hrwb x hx; have := hb.2.2.2.2 hK; unfold ZD; omega) (by omega) (by omega)) ?_)))))
     rintro _ _ ⟨gP, rfl, rfl⟩
     simp only [Qs]
     refine Qc rfl rfl (QB rfl rfl rfl (QB rfl rfl rfl (Qd rfl rfl (WpL.nil (Qb (Qb (Qa (Qc rfl rfl (QO rfl rfl (Qc rfl rfl (WpL.nil (Wp.block ?_))))))))))))
     refine Wp.loopD (σ := Nat) (fun k => k ≤ rw_.length) [12, 17, 82, 83, 84, 85, 86, 87, 88, 89, 90, 91, 92, 93, 94, 95, 96, 97, 98, 99, 100, 101, 102, 103, 104, 105, 106, 107] (fun k => [(82, .int .i64 (k : Int)), (12, .slice (some ⟨gP, 0, none⟩) ((rw_.length + 7) / 8) ((rw_.length + 7) / 8))]) (fun k => [QX 5 1 (some ⟨gP, 0, none⟩) ((rw_.length + 7) / 8) ((rw_.length + 7) / 8) (Xt (YB rw_)), QX 3 1 aR cR rw_.length (Q5 (rw_)), QX 5 1 (some ⟨gO, 0, none⟩) (st * Hn) (st * Hn) (Xt (Xl K W (Qg M) px y ++ zs (st * Hn - st * y))), QK g1 [.int .i64 K, .int .i64 (W : Int), .int .i64 (Hn : Int), .int .i64 M] 98, A0]) (fun k => rw_.length - k) 0 ?_ (by repeat (first | exact FrLe.nil | refine FrLe.cons rfl ?_)) ?_ ?_
     ·exact Nat.zero_le _
     ·exact Ent.refl _
     ·rintro k hk
      refine Qb (Qa (Q8 rfl rfl rfl (WpL.nil (Qb (Qj rfl (fun h7 => ?_) (fun h7 => ?_))))))
      ·have hlk : k < rw_.length := by omega
       have hxb := hrwb _ (List.getElem_mem hlk)
       refine Wp.skip (Qb (Wp.block ?_))
       refine Qb (Qa (Xg k rfl rfl rfl Q0 (by exact Take.ent' (by repeat' constructor)) rfl (by omega) (by rw [Xf]; omega) ?_))
       refine Xk rfl rfl Q0 (by exact Take.ent' (by repeat' constructor)) (XA rw_ hlk) ?_
       refine Qd rfl rfl (WpL.nil (Wp.block ?_))
       refine Qb (Qa (Qk (o2 := 0) rfl rfl rfl (Qn rfl rfl (by rfl) ?_)))
       refine QH rfl rfl rfl (Qd rfl rfl (WpL.nil (QY rfl hK (Wp.skip (Qa (QA rfl rfl rfl (Qo (by omega) (by omega)) ?_))))))
       refine Qc rfl rfl (WpL.nil (Qq (k + 1) ?_ ?_ (by ((repeat (first | exact Top.refl | refine Top.push rfl ?_)); done)) (by repeat (first | exact FrLe.nil | refine FrLe.cons rfl ?_)) ?_))
       ·omega
       ·omega
       ·exact Ent.refl _
      ·have hRB : Zn K (Qg M) rw_ = YB rw_ := if_pos hK
       rw [show (rw_.length + 7) / 8 = st by rw [hrwl, hstd, hK]; exact (if_pos rfl : QE 4 W (Qg M) = _).symm, ← hRB]
       refine QP (Qa (Qc rfl rfl (Qc rfl rfl ?_)))
       refine Qw (vs := [_, _, _, _]) rfl rfl rfl (by rfl) ?_
       refine Qi rfl rfl (by repeat' constructor) (ZY _ _ _ _ hR) ?_
       rintro _ _ ⟨rfl, rfl⟩
       simp only [Qs]
       rw [← hstd]
       refine Xv rfl rfl rfl (Qo (by omega) (by omega)) ?_
       rw [hyst]
       refine Z9 (L := st * y) rfl rfl rfl rfl (by omega) ?_
       refine Qc rfl rfl (s_copyo rfl rfl rfl (by repeat' constructor) (by omega) (by omega) (by omega) (Ve _) ?_)
       rw [row_putU (by rw [hstd]; exact Ya hw hpl hul y hy) (hRBl.trans hstd.symm) hyN, show Zn K (Qg M) rw_ = Zn K (Qg M) (((px.drop (y * W)).take W).flatMap Qp) from by rw [hrw, hrow], ← Zt]
       refine WpL.nil (Qa (QA rfl rfl rfl (Qo (by omega) (by omega)) ?_))
       refine Qc rfl rfl (WpL.nil (Qq (⟨y + 1⟩ : WyX) ?_ ?_ (by ((repeat (first | exact Top.refl | refine Top.push rfl ?_)); done)) (by repeat (first | exact FrLe.nil | refine FrLe.cons rfl ?_)) ?_))
       ·simp only; omega
       ·simp only; omega
       ·exact Take.ent' (by repeat' constructor)
  ·have hye : y = Hn := by omega
   have hwl := Ya (K := K) (w := Qg M) hw hpl hul Hn (Nat.le_refl _)
   rw [← hstd] at hwl
   rw [hye, show zs (st * Hn - st * Hn) = [] from by rw [Nat.sub_self]; rfl, List.append_nil, ← hwl]
   refine QP (Qb (Qa (Qc rfl rfl (Qd rfl rfl (Qd rfl rfl (WpL.nil (Qh ?_)))))))
   apply RetQ.mk
   ·exact (QM rfl rfl rfl)
   ·exact ⟨_, _, rfl, Nat.le_refl _, rfl⟩
   ·exact Take.ent' (by repeat' constructor)

set_option maxHeartbeats 2000000 in
theorem RawWrite_b (A0 : HP) (a0 : Option Addr) (c0 : Nat) (px : List Int) (hA : RdsL [A0] a0 (XQ px)) (hr : ∀ p ∈ px, 0 ≤ p ∧ p < 18446744073709551616) (hc : px.length ≤ c0) (K : Int) (W Hn : Nat) (M : Int) (hR : RawH K (W : Int) (Hn : Int) M) (hpl : px.length = W * Hn) (hfit : ∀ p ∈ px, Yw p (QR K) M) (hK : K ≠ 4) (hM : M ≤ 255) : Fn Tryz.prog 91 #[.slice a0 px.length c0, .agg #[.int .i64 K, .int .i64 (W : Int), .int .i64 (Hn : Int), .int .i64 M]] [A0] (fun v l => ∃ a c, v = .tuple #[.slice a (Xl K W (Qg M) px Hn).length c, .int .i64 0] ∧ (Xl K W (Qg M) px Hn).length ≤ c ∧ l = [QX 5 1 a c (Xl K W (Qg M) px Hn).length (Xt (Xl K W (Qg M) px Hn)), A0]) := by
 have hb := hR.bd
 have hch := Yk K
 have hw := Q1 M
 have hsb := XB (K := K) (W := W) hw (by omega) (by omega)
 have hWH : W * Hn ≤ 4096 * 65536 := Nat.mul_le_mul (by omega) (by omega)
 have hWHi : (W : Int) * (Hn : Int) = ((W * Hn : Nat) : Int) := by push_cast; rfl
 obtain ⟨st, hstd⟩ : ∃ st, st = QE K W (Qg M) := ⟨_, rfl⟩
 rw [← hstd] at hsb
 have hN : st * Hn ≤ 24576 * 65536 := Nat.mul_le_mul (by omega) (by omega)
 have hul : ∀ p ∈ px, (Qp p).length = (QR K).toNat := fun p hp => by have := ZZ (hfit p hp); omega
 refine Ql (vs := [.slice a0 px.length c0, .agg #[.int .i64 K, .int .i64 (W : Int), .int .i64 (Hn : Int), .int .i64 M]]) Tryz.func91 rfl Tryz.ntmps91 rfl (Qb (Qa (Q2 rfl rfl rfl ?_)))
 intro g1
 refine Qd rfl rfl (Qd rfl rfl (WpL.nil (Qb (Qa ?_))))
 refine Qw (vs := [_, _, _, _]) rfl rfl rfl (by rfl) ?_
 refine Qi rfl rfl (by repeat' constructor) (XT _ _ _ _ (by omega)) ?_
 rintro _ _ ⟨rfl, rfl⟩
 simp only [Qs]
 rw [show (if K % 3 = 0 then (3 : Int) else 1) = QR K from rfl]
 refine XH rfl ?_
 intro gF
 refine QC rfl rfl rfl (by rfl) rfl ?_
 refine WpL.nil (Qb (Qa (s_mkf rfl (fun a hh => Ys hh _ _ rfl) ?_)))
 refine Qd rfl rfl (WpL.nil (Qb (Qb (Qa ?_))))
 refine Qw (vs := [_, _, _, _]) rfl rfl rfl (by rfl) ?_
 refine Qi rfl rfl (by repeat' constructor) (ZX _ _ _ _ hR) ?_
 rintro _ _ ⟨gR, gB, b0, hb0, hb0z, rfl, rfl⟩
 simp only [Qs]
 refine Qc rfl rfl (QB rfl rfl rfl (QB rfl rfl rfl (Qd rfl rfl (Qd rfl rfl (WpL.nil (Qb (Qa (Qc rfl rfl (Xq rfl rfl rfl (Qc rfl rfl (Qv (dj := 28) rfl (by decide) ?_)))))))))))
 refine Qf rfl rfl (Qc rfl rfl (Qf rfl rfl (QO rfl rfl (Qf rfl rfl (Qk (o2 := 1) rfl rfl rfl (Qf rfl rfl (Qn rfl rfl (by rfl) ?_)))))))
 refine Qf rfl rfl (Qk (o2 := 2) rfl rfl rfl (Qf rfl rfl (Qn rfl rfl (by rfl) ?_)))
 refine Qf rfl rfl (Xv rfl rfl rfl (Qo (by omega) (by omega)) ?_)
 rw [hWHi]
 refine Qf rfl rfl (Xq rfl rfl rfl (Qt rfl rfl rfl (Qc rfl rfl (Qv (dj := 38) rfl (decide_eq_false (fun h => h (by omega))) ?_))))
 refine Qf rfl rfl (Qc rfl rfl (Qf rfl rfl (Qc rfl rfl (Qf rfl rfl (Qi rfl rfl (by repeat' constructor) (Zf A0 a0 c0 px hA hr (by omega) gF (QR K) M) ?_)))))
 rintro _ _ ⟨rfl, rfl⟩
 simp only [Qs]
 refine Qt rfl rfl rfl (WpL.nil (Qz rfl (fun h => h hfit) ?_))
 refine Wp.skip (Qb (Qa ?_))
 refine Qw (vs := [_, _, _, _]) rfl rfl rfl (by rfl) ?_
 refine Qi rfl rfl (by repeat' constructor) (Size_spec _ _ _ _ hR) ?_
 rintro _ _ ⟨rfl, rfl⟩
 simp only [Qs]
 rw [← hstd]
 refine s_mko (st * Hn) rfl rfl rfl (by omega) (by omega) rfl ?_
 intro gO
 rw [u8s_zero, show List.replicate (st * Hn) (0 : Int) = Xl K W (Qg M) px 0 ++ zs (st * Hn - st * 0) from rfl]
 refine Qd rfl rfl (WpL.nil (Qb (Qb (Qa (Qk (o2 := 2) rfl rfl rfl (Qn rfl rfl (by rfl) ?_))))))
 refine Qc rfl rfl (WpL.nil (Wp.block ?_))
 refine Wp.loopD (σ := WyX) (fun x => x.y ≤ Hn) [11, 12, 13, 15, 17, 48, 49, 50, 51, 52, 53, 54, 55, 56, 57, 58, 59, 60, 61, 62, 63, 64, 65, 66, 67, 68, 69, 70, 71, 72, 73, 74, 75, 76, 77, 78, 79, 80, 81, 82, 83, 84, 85, 86, 87, 88, 89, 90, 91, 92, 93, 94, 95, 96, 97, 98, 99, 100, 101, 102, 103, 104, 105, 106, 107, 108, 109, 110, 111, 112, 113, 114, 115, 116] (fun x => [(48, .int .i64 (x.y : Int))]) (fun x => [QX 5 1 (some ⟨gO, 0, none⟩) (st * Hn) (st * Hn) (Xt (Xl K W (Qg M) px x.y ++ zs (st * Hn - st * x.y))), QK g1 [.int .i64 K, .int .i64 (W : Int), .int .i64 (Hn : Int), .int .i64 M] 98, A0]) (fun x => Hn - x.y) ⟨0⟩ ?_ (by repeat (first | exact FrLe.nil | refine FrLe.cons rfl ?_)) ?_ ?_
 ·exact Nat.zero_le _
 ·exact Take.ent' (by repeat' constructor)
 ·rintro ⟨y⟩ hy
  dsimp only at hy ⊢
  refine Qb (Qa (Q8 rfl rfl rfl (WpL.nil (Qb (Qj rfl (fun h2 => ?_) (fun h2 => ?_))))))
  ·have hlt : y < Hn := by omega
   have hkW : (y + 1) * W = y * W + W := by rw [Nat.add_mul, Nat.one_mul]
   have hkW2 : (y + 1) * W ≤ Hn * W := Nat.mul_le_mul_right _ hlt
   rw [Nat.mul_comm Hn W] at hkW2
   have ei1 : (y : Int) * (W : Int) = ((y * W : Nat) : Int) := by push_cast; rfl
   have ei2 : ((y : Int) + 1) * (W : Int) = (((y + 1) * W : Nat) : Int) := by push_cast; rfl
   have hyN : st * (y + 1) ≤ st * Hn := Nat.mul_le_mul_left _ hlt
   have hyS : st * (y + 1) = st * y + st := by rw [Nat.mul_add, Nat.mul_one]
   have hyst : (y : Int) * (st : Int) = ((st * y : Nat) : Int) := by push_cast; rw [Int.mul_comm]
   refine Wp.skip (Qb (Wp.block ?_))
   refine Qb (Qa (Qc rfl rfl (Qd rfl rfl (WpL.nil (Qb (Qa (Qd rfl rfl (WpL.nil (Qb (Qa (Qd rfl rfl (WpL.nil ?_))))))))))))
   refine Qb (Qb (Qa (Qc rfl rfl (Qc rfl rfl (Qk (o2 := 1) rfl rfl rfl (Qn rfl rfl (by rfl) ?_))))))
   refine Xv rfl rfl rfl (Qo (by omega) (by omega)) ?_
   rw [ei1]
   refine Qc rfl rfl (QA rfl rfl rfl (Qo (by omega) (by omega)) ?_)
   refine Qk (o2 := 1) rfl rfl rfl (Qn rfl rfl (by rfl) ?_)
   refine Xv rfl rfl rfl (Qo (by omega) (by omega)) ?_
   rw [ei2]
   refine ZA (L := y * W) (H := (y + 1) * W) rfl rfl rfl rfl rfl rfl (by omega) (by omega) ?_
   refine QO rfl rfl (Qc rfl rfl (WpL.nil (Wp.block ?_)))
   have hRw := hA.sla (y * W) ((y + 1) * W) c0 1 (by omega)
   rw [pxs_sub] at hRw
   rw [show (y + 1) * W - y * W = W by omega] at hRw ⊢
   obtain ⟨row, hrow⟩ : ∃ row, row = (px.drop (y * W)).take W := ⟨_, rfl⟩
   have hrl : row.length = W := by rw [hrow, List.length_take, List.length_drop]; omega
   have hrp : ∀ p ∈ row, p ∈ px := fun p hp => by rw [hrow] at hp; exact List.mem_of_mem_drop (List.mem_of_mem_take hp)
   rw [← hrow] at hRw
   refine Wp.loopD (σ := WjX) (fun z => z.j ≤ W ∧ z.m = ((row.take z.j).flatMap Qp).length) [13, 15, 63, 64, 65, 66, 67, 68, 69, 70, 71] (fun z => [(63, .int .i64 (z.j : Int)), (13, .slice z.a z.m z.c)]) (fun z => [QX 3 1 z.a z.c z.m (Q5 ((row.take z.j).flatMap Qp)), QX 5 1 (some ⟨gO, 0, none⟩) (st * Hn) (st * Hn) (Xt (Xl K W (Qg M) px y ++ zs (st * Hn - st * y))), QK g1 [.int .i64 K, .int .i64 (W : Int), .int .i64 (Hn : Int), .int .i64 M] 98, A0]) (fun z => W - z.j) ⟨0, none, 0, 0⟩ ?_ (by repeat (first | exact FrLe.nil | refine FrLe.cons rfl ?_)) ?_ ?_
   ·exact ⟨Nat.zero_le _, rfl⟩
   ·exact Ent.own_nil (T := 3) (s := 1) (Ent.refl _)
   ·rintro ⟨j, aR, cR, m⟩ ⟨hj, hm⟩
    dsimp only at hj hm ⊢
    have hml := flat_le (row.take j)
    rw [← hm, List.length_take] at hml
    refine Qb (Qa (Q8 rfl rfl rfl (WpL.nil (Qb (Qj rfl (fun h4 => ?_) (fun h4 => ?_))))))
    ·have hlj : j < row.length := by omega
     have hpp := hrp _ (List.getElem_mem hlj)
     have hpb := hr _ hpp
     have hun := hul _ hpp
     have hul3 := XL (row[j]'hlj)
     refine Wp.skip (Qb (Wp.block ?_))
     refine Qb (Qa (Xg j rfl rfl rfl hRw (by exact Take.ent' (by repeat' constructor)) rfl (by omega) (by rw [Yh]; omega) ?_))
     refine Xk rfl rfl hRw (by exact Take.ent' (by repeat' constructor)) (Y6 row hlj) ?_
     refine Qd rfl rfl (WpL.nil (Qa (Qc rfl rfl (Qc rfl rfl (Qi rfl rfl (by repeat' constructor) (Yq _ hpb.1 hpb.2) ?_)))))
     rintro _ _ ⟨A1, a1, c1, rfl, rfl, hA1, hn1⟩
     simp only [Qs]
     refine s_appr rfl rfl rfl (by repeat' constructor) hA1 (by exact Take.ent' (by repeat' constructor)) (ints_ne (fun e => by rw [e] at hun; simp at hun; omega)) (by rw [Xf, Nat.mul_one]) (by rfl) (by rfl) (ints_one _) (by omega) (by omega) ?_
     intro a70 c70
     rw [ints_app, ZL hlj]
     refine Qd rfl rfl (WpL.nil (Qa (QA rfl rfl rfl (Qo (by omega) (by omega)) ?_)))
     refine Qc rfl rfl (WpL.nil (Qq (⟨j + 1, a70, c70, m + (Qp (row[j]'hlj)).length⟩ : WjX) ?_ ?_ (by ((repeat (first | exact Top.refl | refine Top.push rfl ?_)); done)) (by repeat (first | exact FrLe.nil | refine FrLe.cons rfl ?_)) ?_))
     ·exact ⟨by simp only; omega, by simp only; rw [← ZL hlj, List.length_append, ← hm]⟩
     ·simp only; omega
     ·exact Take.ent' (by repeat' constructor)
    ·have hje : j = row.length := by omega
     subst hje
     rw [List.take_length] at hm ⊢
     obtain ⟨rw_, hrw⟩ : ∃ q, q = row.flatMap Qp := ⟨_, rfl⟩
     rw [← hrw] at hm ⊢
     subst hm
     have hrwl : rw_.length = W * (QR K).toNat := by rw [hrw, Zw row (fun p hp => hul p (hrp p hp)), hrl]
     have hrwb : ∀ x ∈ rw_, 0 ≤ x ∧ x ≤ M := fun x hx => by
      rw [hrw] at hx
      obtain ⟨p, hp, hx⟩ := List.mem_flatMap.1 hx
      exact ⟨(YT p x hx).1, (hfit p (hrp p hp)).2.2 x hx⟩
     have hrwl2 : 1 ≤ rw_.length ∧ rw_.length ≤ 12288 := by rw [hrwl]; rcases hch with e | e <;> rw [e] <;> simp <;> omega
     have hRBl : (Zn K (Qg M) rw_).length = QE K W (Qg M) := by
      by_cases h9 : K = 4
      ·have e1 : (QR K).toNat = 1 := by rw [h9]; rfl
       rw [show Zn K (Qg M) rw_ = YB rw_ from if_pos h9, show QE K W (Qg M) = (W + 7) / 8 from if_pos h9, Zb, hrwl, e1, Nat.mul_one]
      ·rw [show Zn K (Qg M) rw_ = rw_.flatMap (YA (Qg M)) from if_neg h9, show QE K W (Qg M) = W * (QR K).toNat * Qg M from if_neg h9, Vu hw, hrwl]
     have hw1 : Qg M = 1 := if_neg (by omega)
     refine QP (Qb (Qb (Qa (Qk (o2 := 0) rfl rfl rfl (Qn rfl rfl (by rfl) ?_)))))
     refine QH rfl rfl rfl (WpL.nil (Qz rfl hK (Wp.skip (Qb (Qb (Qa (Qc rfl rfl (QO rfl rfl (Qc rfl rfl (WpL.nil (Wp.block ?_)))))))))))
     refine Wp.loopD (σ := WjX) (fun z => z.j ≤ rw_.length ∧ z.m = ((rw_.take z.j).flatMap (YA (Qg M))).length) [12, 17, 82, 83, 84, 85, 86, 87, 88, 89, 90, 91, 92, 93, 94, 95, 96, 97, 98, 99, 100, 101, 102, 103, 104, 105, 106, 107] (fun z => [(82, .int .i64 (z.j : Int)), (12, .slice z.a z.m z.c)]) (fun z => [QX 5 1 z.a z.c z.m (Xt ((rw_.take z.j).flatMap (YA (Qg M)))), QX 3 1 aR cR rw_.length (Q5 (rw_)), QX 5 1 (some ⟨gO, 0, none⟩) (st * Hn) (st * Hn) (Xt (Xl K W (Qg M) px y ++ zs (st * Hn - st * y))), QK g1 [.int .i64 K, .int .i64 (W : Int), .int .i64 (Hn : Int), .int .i64 M] 98, A0]) (fun z => rw_.length - z.j) ⟨0, none, 0, 0⟩ ?_ (by repeat (first | exact FrLe.nil | refine FrLe.cons rfl ?_)) ?_ ?_
     ·exact ⟨Nat.zero_le _, rfl⟩
     ·exact Ent.own_nil (T := 5) (s := 1) (Ent.refl _)
     ·rintro ⟨k, aB, cB, mB⟩ ⟨hk, hmB⟩
      dsimp only at hk hmB ⊢
      have hmBl := enc_le (Qg M) (rw_.take k)
      rw [← hmB, List.length_take] at hmBl
      refine Qb (Qa (Q8 rfl rfl rfl (WpL.nil (Qb (Qj rfl (fun h7 => ?_) (fun h7 => ?_))))))
      ·have hlk : k < rw_.length := by omega
       have hxb := hrwb _ (List.getElem_mem hlk)
       refine Wp.skip (Qb (Wp.block ?_))
       refine Qb (Qa (Xg k rfl rfl rfl Q0 (by exact Take.ent' (by repeat' constructor)) rfl (by omega) (by rw [Xf]; omega) ?_))
       refine Xk rfl rfl Q0 (by exact Take.ent' (by repeat' constructor)) (XA rw_ hlk) ?_
       refine Qd rfl rfl (WpL.nil (Wp.block ?_))
       refine Qb (Qa (Qk (o2 := 0) rfl rfl rfl (Qn rfl rfl (by rfl) ?_)))
       refine QH rfl rfl rfl (Qd rfl rfl (WpL.nil (Qz rfl hK (Qb (Qa ?_)))))
       refine Qw (vs := [_, _, _, _]) rfl rfl rfl (by rfl) ?_
       refine Qi rfl rfl (by repeat' constructor) (Zd _ _ _ _) ?_
       rintro _ _ ⟨rfl, rfl⟩
       simp only [Qs]
       refine QH rfl rfl rfl (Qd rfl rfl (WpL.nil (QY rfl (by omega) ?_)))
       refine Qa (Qc rfl rfl (Qc rfl rfl (XY rfl Tryz.underlying3 rfl (w_u8 (by omega) (by omega)) ?_)))
       refine X4 rfl rfl rfl rfl ?_
       intro g3
       refine XN rfl rfl rfl (by repeat' constructor) (by rfl) (by rfl) (by rfl) (by rfl) (by omega) (by omega) ?_
       intro aN cN
       rw [ZT, show [rw_[k]'hlk] = YA (Qg M) (rw_[k]'hlk) from by rw [hw1, encS1], Vk hlk]
       refine Qd rfl rfl (WpL.nil (Qa (QA rfl rfl rfl (Qo (by omega) (by omega)) ?_)))
       refine Qc rfl rfl (WpL.nil (Qq (⟨k + 1, aN, cN, mB + 1⟩ : WjX) ?_ ?_ (by ((repeat (first | exact Top.refl | refine Top.push rfl ?_)); done)) (by repeat (first | exact FrLe.nil | refine FrLe.cons rfl ?_)) ?_))
       ·exact ⟨by simp only; omega, by simp only; rw [← Vk hlk, List.length_append, ← hmB, hw1, encS1]; rfl⟩
       ·simp only; omega
       ·exact Ent.refl _
      ·have hke : k = rw_.length := by omega
       subst hke
       rw [List.take_length] at hmB ⊢
       have hRB : Zn K (Qg M) rw_ = rw_.flatMap (YA (Qg M)) := if_neg hK
       rw [← hRB] at hmB ⊢
       have hmst : mB = st := hmB.trans (hRBl.trans hstd.symm)
       rw [hmst]
       refine QP (Qa (Qc rfl rfl (Qc rfl rfl ?_)))
       refine Qw (vs := [_, _, _, _]) rfl rfl rfl (by rfl) ?_
       refine Qi rfl rfl (by repeat' constructor) (ZY _ _ _ _ hR) ?_
       rintro _ _ ⟨rfl, rfl⟩
       simp only [Qs]
       rw [← hstd]
       refine Xv rfl rfl rfl (Qo (by omega) (by omega)) ?_
       rw [hyst]
       refine Z9 (L := st * y) rfl rfl rfl rfl (by omega) ?_
       refine Qc rfl rfl (s_copyo rfl rfl rfl (by repeat' constructor) (by omega) (by omega) (by omega) (Ve _) ?_)
       rw [row_putU (by rw [hstd]; exact Ya hw hpl hul y hy) (hRBl.trans hstd.symm) hyN, show Zn K (Qg M) rw_ = Zn K (Qg M) (((px.drop (y * W)).take W).flatMap Qp) from by rw [hrw, hrow], ← Zt]
       refine WpL.nil (Qa (QA rfl rfl rfl (Qo (by omega) (by omega)) ?_))
       refine Qc rfl rfl (WpL.nil (Qq (⟨y + 1⟩ : WyX) ?_ ?_ (by ((repeat (first | exact Top.refl | refine Top.push rfl ?_)); done)) (by repeat (first | exact FrLe.nil | refine FrLe.cons rfl ?_)) ?_))
       ·simp only; omega
       ·simp only; omega
       ·exact Take.ent' (by repeat' constructor)
  ·have hye : y = Hn := by omega
   have hwl := Ya (K := K) (w := Qg M) hw hpl hul Hn (Nat.le_refl _)
   rw [← hstd] at hwl
   rw [hye, show zs (st * Hn - st * Hn) = [] from by rw [Nat.sub_self]; rfl, List.append_nil, ← hwl]
   refine QP (Qb (Qa (Qc rfl rfl (Qd rfl rfl (Qd rfl rfl (WpL.nil (Qh ?_)))))))
   apply RetQ.mk
   ·exact (QM rfl rfl rfl)
   ·exact ⟨_, _, rfl, Nat.le_refl _, rfl⟩
   ·exact Take.ent' (by repeat' constructor)

set_option maxHeartbeats 2000000 in
theorem RawWrite_c (A0 : HP) (a0 : Option Addr) (c0 : Nat) (px : List Int) (hA : RdsL [A0] a0 (XQ px)) (hr : ∀ p ∈ px, 0 ≤ p ∧ p < 18446744073709551616) (hc : px.length ≤ c0) (K : Int) (W Hn : Nat) (M : Int) (hR : RawH K (W : Int) (Hn : Int) M) (hpl : px.length = W * Hn) (hfit : ∀ p ∈ px, Yw p (QR K) M) (hK : K ≠ 4) (hM : ¬ M ≤ 255) : Fn Tryz.prog 91 #[.slice a0 px.length c0, .agg #[.int .i64 K, .int .i64 (W : Int), .int .i64 (Hn : Int), .int .i64 M]] [A0] (fun v l => ∃ a c, v = .tuple #[.slice a (Xl K W (Qg M) px Hn).length c, .int .i64 0] ∧ (Xl K W (Qg M) px Hn).length ≤ c ∧ l = [QX 5 1 a c (Xl K W (Qg M) px Hn).length (Xt (Xl K W (Qg M) px Hn)), A0]) := by
 have hb := hR.bd
 have hch := Yk K
 have hw := Q1 M
 have hsb := XB (K := K) (W := W) hw (by omega) (by omega)
 have hWH : W * Hn ≤ 4096 * 65536 := Nat.mul_le_mul (by omega) (by omega)
 have hWHi : (W : Int) * (Hn : Int) = ((W * Hn : Nat) : Int) := by push_cast; rfl
 obtain ⟨st, hstd⟩ : ∃ st, st = QE K W (Qg M) := ⟨_, rfl⟩
 rw [← hstd] at hsb
 have hN : st * Hn ≤ 24576 * 65536 := Nat.mul_le_mul (by omega) (by omega)
 have hul : ∀ p ∈ px, (Qp p).length = (QR K).toNat := fun p hp => by have := ZZ (hfit p hp); omega
 refine Ql (vs := [.slice a0 px.length c0, .agg #[.int .i64 K, .int .i64 (W : Int), .int .i64 (Hn : Int), .int .i64 M]]) Tryz.func91 rfl Tryz.ntmps91 rfl (Qb (Qa (Q2 rfl rfl rfl ?_)))
 intro g1
 refine Qd rfl rfl (Qd rfl rfl (WpL.nil (Qb (Qa ?_))))
 refine Qw (vs := [_, _, _, _]) rfl rfl rfl (by rfl) ?_
 refine Qi rfl rfl (by repeat' constructor) (XT _ _ _ _ (by omega)) ?_
 rintro _ _ ⟨rfl, rfl⟩
 simp only [Qs]
 rw [show (if K % 3 = 0 then (3 : Int) else 1) = QR K from rfl]
 refine XH rfl ?_
 intro gF
 refine QC rfl rfl rfl (by rfl) rfl ?_
 refine WpL.nil (Qb (Qa (s_mkf rfl (fun a hh => Ys hh _ _ rfl) ?_)))
 refine Qd rfl rfl (WpL.nil (Qb (Qb (Qa ?_))))
 refine Qw (vs := [_, _, _, _]) rfl rfl rfl (by rfl) ?_
 refine Qi rfl rfl (by repeat' constructor) (ZX _ _ _ _ hR) ?_
 rintro _ _ ⟨gR, gB, b0, hb0, hb0z, rfl, rfl⟩
 simp only [Qs]
 refine Qc rfl rfl (QB rfl rfl rfl (QB rfl rfl rfl (Qd rfl rfl (Qd rfl rfl (WpL.nil (Qb (Qa (Qc rfl rfl (Xq rfl rfl rfl (Qc rfl rfl (Qv (dj := 28) rfl (by decide) ?_)))))))))))
 refine Qf rfl rfl (Qc rfl rfl (Qf rfl rfl (QO rfl rfl (Qf rfl rfl (Qk (o2 := 1) rfl rfl rfl (Qf rfl rfl (Qn rfl rfl (by rfl) ?_)))))))
 refine Qf rfl rfl (Qk (o2 := 2) rfl rfl rfl (Qf rfl rfl (Qn rfl rfl (by rfl) ?_)))
 refine Qf rfl rfl (Xv rfl rfl rfl (Qo (by omega) (by omega)) ?_)
 rw [hWHi]
 refine Qf rfl rfl (Xq rfl rfl rfl (Qt rfl rfl rfl (Qc rfl rfl (Qv (dj := 38) rfl (decide_eq_false (fun h => h (by omega))) ?_))))
 refine Qf rfl rfl (Qc rfl rfl (Qf rfl rfl (Qc rfl rfl (Qf rfl rfl (Qi rfl rfl (by repeat' constructor) (Zf A0 a0 c0 px hA hr (by omega) gF (QR K) M) ?_)))))
 rintro _ _ ⟨rfl, rfl⟩
 simp only [Qs]
 refine Qt rfl rfl rfl (WpL.nil (Qz rfl (fun h => h hfit) ?_))
 refine Wp.skip (Qb (Qa ?_))
 refine Qw (vs := [_, _, _, _]) rfl rfl rfl (by rfl) ?_
 refine Qi rfl rfl (by repeat' constructor) (Size_spec _ _ _ _ hR) ?_
 rintro _ _ ⟨rfl, rfl⟩
 simp only [Qs]
 rw [← hstd]
 refine s_mko (st * Hn) rfl rfl rfl (by omega) (by omega) rfl ?_
 intro gO
 rw [u8s_zero, show List.replicate (st * Hn) (0 : Int) = Xl K W (Qg M) px 0 ++ zs (st * Hn - st * 0) from rfl]
 refine Qd rfl rfl (WpL.nil (Qb (Qb (Qa (Qk (o2 := 2) rfl rfl rfl (Qn rfl rfl (by rfl) ?_))))))
 refine Qc rfl rfl (WpL.nil (Wp.block ?_))
 refine Wp.loopD (σ := WyX) (fun x => x.y ≤ Hn) [11, 12, 13, 15, 17, 48, 49, 50, 51, 52, 53, 54, 55, 56, 57, 58, 59, 60, 61, 62, 63, 64, 65, 66, 67, 68, 69, 70, 71, 72, 73, 74, 75, 76, 77, 78, 79, 80, 81, 82, 83, 84, 85, 86, 87, 88, 89, 90, 91, 92, 93, 94, 95, 96, 97, 98, 99, 100, 101, 102, 103, 104, 105, 106, 107, 108, 109, 110, 111, 112, 113, 114, 115, 116] (fun x => [(48, .int .i64 (x.y : Int))]) (fun x => [QX 5 1 (some ⟨gO, 0, none⟩) (st * Hn) (st * Hn) (Xt (Xl K W (Qg M) px x.y ++ zs (st * Hn - st * x.y))), QK g1 [.int .i64 K, .int .i64 (W : Int), .int .i64 (Hn : Int), .int .i64 M] 98, A0]) (fun x => Hn - x.y) ⟨0⟩ ?_ (by repeat (first | exact FrLe.nil | refine FrLe.cons rfl ?_)) ?_ ?_
 ·exact Nat.zero_le _
 ·exact Take.ent' (by repeat' constructor)
 ·rintro ⟨y⟩ hy
  dsimp only at hy ⊢
  refine Qb (Qa (Q8 rfl rfl rfl (WpL.nil (Qb (Qj rfl (fun h2 => ?_) (fun h2 => ?_))))))
  ·have hlt : y < Hn := by omega
   have hkW : (y + 1) * W = y * W + W := by rw [Nat.add_mul, Nat.one_mul]
   have hkW2 : (y + 1) * W ≤ Hn * W := Nat.mul_le_mul_right _ hlt
   rw [Nat.mul_comm Hn W] at hkW2
   have ei1 : (y : Int) * (W : Int) = ((y * W : Nat) : Int) := by push_cast; rfl
   have ei2 : ((y : Int) + 1) * (W : Int) = (((y + 1) * W : Nat) : Int) := by push_cast; rfl
   have hyN : st * (y + 1) ≤ st * Hn := Nat.mul_le_mul_left _ hlt
   have hyS : st * (y + 1) = st * y + st := by rw [Nat.mul_add, Nat.mul_one]
   have hyst : (y : Int) * (st : Int) = ((st * y : Nat) : Int) := by push_cast; rw [Int.mul_comm]
   refine Wp.skip (Qb (Wp.block ?_))
   refine Qb (Qa (Qc rfl rfl (Qd rfl rfl (WpL.nil (Qb (Qa (Qd rfl rfl (WpL.nil (Qb (Qa (Qd rfl rfl (WpL.nil ?_))))))))))))
   refine Qb (Qb (Qa (Qc rfl rfl (Qc rfl rfl (Qk (o2 := 1) rfl rfl rfl (Qn rfl rfl (by rfl) ?_))))))
   refine Xv rfl rfl rfl (Qo (by omega) (by omega)) ?_
   rw [ei1]
   refine Qc rfl rfl (QA rfl rfl rfl (Qo (by omega) (by omega)) ?_)
   refine Qk (o2 := 1) rfl rfl rfl (Qn rfl rfl (by rfl) ?_)
   refine Xv rfl rfl rfl (Qo (by omega) (by omega)) ?_
   rw [ei2]
   refine ZA (L := y * W) (H := (y + 1) * W) rfl rfl rfl rfl rfl rfl (by omega) (by omega) ?_
   refine QO rfl rfl (Qc rfl rfl (WpL.nil (Wp.block ?_)))
   have hRw := hA.sla (y * W) ((y + 1) * W) c0 1 (by omega)
   rw [pxs_sub] at hRw
   rw [show (y + 1) * W - y * W = W by omega] at hRw ⊢
   obtain ⟨row, hrow⟩ : ∃ row, row = (px.drop (y * W)).take W := ⟨_, rfl⟩
   have hrl : row.length = W := by rw [hrow, List.length_take, List.length_drop]; omega
   have hrp : ∀ p ∈ row, p ∈ px := fun p hp => by rw [hrow] at hp; exact List.mem_of_mem_drop (List.mem_of_mem_take hp)
   rw [← hrow] at hRw
   refine Wp.loopD (σ := WjX) (fun z => z.j ≤ W ∧ z.m = ((row.take z.j).flatMap Qp).length) [13, 15, 63, 64, 65, 66, 67, 68, 69, 70, 71] (fun z => [(63, .int .i64 (z.j : Int)), (13, .slice z.a z.m z.c)]) (fun z => [QX 3 1 z.a z.c z.m (Q5 ((row.take z.j).flatMap Qp)), QX 5 1 (some ⟨gO, 0, none⟩) (st * Hn) (st * Hn) (Xt (Xl K W (Qg M) px y ++ zs (st * Hn - st * y))), QK g1 [.int .i64 K, .int .i64 (W : Int), .int .i64 (Hn : Int), .int .i64 M] 98, A0]) (fun z => W - z.j) ⟨0, none, 0, 0⟩ ?_ (by repeat (first | exact FrLe.nil | refine FrLe.cons rfl ?_)) ?_ ?_
   ·exact ⟨Nat.zero_le _, rfl⟩
   ·exact Ent.own_nil (T := 3) (s := 1) (Ent.refl _)
   ·rintro ⟨j, aR, cR, m⟩ ⟨hj, hm⟩
    dsimp only at hj hm ⊢
    have hml := flat_le (row.take j)
    rw [← hm, List.length_take] at hml
    refine Qb (Qa (Q8 rfl rfl rfl (WpL.nil (Qb (Qj rfl (fun h4 => ?_) (fun h4 => ?_))))))
    ·have hlj : j < row.length := by omega
     have hpp := hrp _ (List.getElem_mem hlj)
     have hpb := hr _ hpp
     have hun := hul _ hpp
     have hul3 := XL (row[j]'hlj)
     refine Wp.skip (Qb (Wp.block ?_))
     refine Qb (Qa (Xg j rfl rfl rfl hRw (by exact Take.ent' (by repeat' constructor)) rfl (by omega) (by rw [Yh]; omega) ?_))
     refine Xk rfl rfl hRw (by exact Take.ent' (by repeat' constructor)) (Y6 row hlj) ?_
     refine Qd rfl rfl (WpL.nil (Qa (Qc rfl rfl (Qc rfl rfl (Qi rfl rfl (by repeat' constructor) (Yq _ hpb.1 hpb.2) ?_)))))
     rintro _ _ ⟨A1, a1, c1, rfl, rfl, hA1, hn1⟩
     simp only [Qs]
     refine s_appr rfl rfl rfl (by repeat' constructor) hA1 (by exact Take.ent' (by repeat' constructor)) (ints_ne (fun e => by rw [e] at hun; simp at hun; omega)) (by rw [Xf, Nat.mul_one]) (by rfl) (by rfl) (ints_one _) (by omega) (by omega) ?_
     intro a70 c70
     rw [ints_app, ZL hlj]
     refine Qd rfl rfl (WpL.nil (Qa (QA rfl rfl rfl (Qo (by omega) (by omega)) ?_)))
     refine Qc rfl rfl (WpL.nil (Qq (⟨j + 1, a70, c70, m + (Qp (row[j]'hlj)).length⟩ : WjX) ?_ ?_ (by ((repeat (first | exact Top.refl | refine Top.push rfl ?_)); done)) (by repeat (first | exact FrLe.nil | refine FrLe.cons rfl ?_)) ?_))
     ·exact ⟨by simp only; omega, by simp only; rw [← ZL hlj, List.length_append, ← hm]⟩
     ·simp only; omega
     ·exact Take.ent' (by repeat' constructor)
    ·have hje : j = row.length := by omega
     subst hje
     rw [List.take_length] at hm ⊢
     obtain ⟨rw_, hrw⟩ : ∃ q, q = row.flatMap Qp := ⟨_, rfl⟩
     rw [← hrw] at hm ⊢
     subst hm
     have hrwl : rw_.length = W * (QR K).toNat := by rw [hrw, Zw row (fun p hp => hul p (hrp p hp)), hrl]
     have hrwb : ∀ x ∈ rw_, 0 ≤ x ∧ x ≤ M := fun x hx => by
      rw [hrw] at hx
      obtain ⟨p, hp, hx⟩ := List.mem_flatMap.1 hx
      exact ⟨(YT p x hx).1, (hfit p (hrp p hp)).2.2 x hx⟩
     have hrwl2 : 1 ≤ rw_.length ∧ rw_.length ≤ 12288 := by rw [hrwl]; rcases hch with e | e <;> rw [e] <;> simp <;> omega
     have hRBl : (Zn K (Qg M) rw_).length = QE K W (Qg M) := by
      by_cases h9 : K = 4
      ·have e1 : (QR K).toNat = 1 := by rw [h9]; rfl
       rw [show Zn K (Qg M) rw_ = YB rw_ from if_pos h9, show QE K W (Qg M) = (W + 7) / 8 from if_pos h9, Zb, hrwl, e1, Nat.mul_one]
      ·rw [show Zn K (Qg M) rw_ = rw_.flatMap (YA (Qg M)) from if_neg h9, show QE K W (Qg M) = W * (QR K).toNat * Qg M from if_neg h9, Vu hw, hrwl]
     have hw2 : Qg M = 2 := if_pos (by omega)
     refine QP (Qb (Qb (Qa (Qk (o2 := 0) rfl rfl rfl (Qn rfl rfl (by rfl) ?_)))))
     refine QH rfl rfl rfl (WpL.nil (Qz rfl hK (Wp.skip (Qb (Qb (Qa (Qc rfl rfl (QO rfl rfl (Qc rfl rfl (WpL.nil (Wp.block ?_)))))))))))
     refine Wp.loopD (σ := WjX) (fun z => z.j ≤ rw_.length ∧ z.m = ((rw_.take z.j).flatMap (YA (Qg M))).length) [12, 17, 82, 83, 84, 85, 86, 87, 88, 89, 90, 91, 92, 93, 94, 95, 96, 97, 98, 99, 100, 101, 102, 103, 104, 105, 106, 107] (fun z => [(82, .int .i64 (z.j : Int)), (12, .slice z.a z.m z.c)]) (fun z => [QX 5 1 z.a z.c z.m (Xt ((rw_.take z.j).flatMap (YA (Qg M)))), QX 3 1 aR cR rw_.length (Q5 (rw_)), QX 5 1 (some ⟨gO, 0, none⟩) (st * Hn) (st * Hn) (Xt (Xl K W (Qg M) px y ++ zs (st * Hn - st * y))), QK g1 [.int .i64 K, .int .i64 (W : Int), .int .i64 (Hn : Int), .int .i64 M] 98, A0]) (fun z => rw_.length - z.j) ⟨0, none, 0, 0⟩ ?_ (by repeat (first | exact FrLe.nil | refine FrLe.cons rfl ?_)) ?_ ?_
     ·exact ⟨Nat.zero_le _, rfl⟩
     ·exact Ent.own_nil (T := 5) (s := 1) (Ent.refl _)
     ·rintro ⟨k, aB, cB, mB⟩ ⟨hk, hmB⟩
      dsimp only at hk hmB ⊢
      have hmBl := enc_le (Qg M) (rw_.take k)
      rw [← hmB, List.length_take] at hmBl
      refine Qb (Qa (Q8 rfl rfl rfl (WpL.nil (Qb (Qj rfl (fun h7 => ?_) (fun h7 => ?_))))))
      ·have hlk : k < rw_.length := by omega
       have hxb := hrwb _ (List.getElem_mem hlk)
       refine Wp.skip (Qb (Wp.block ?_))
       refine Qb (Qa (Xg k rfl rfl rfl Q0 (by exact Take.ent' (by repeat' constructor)) rfl (by omega) (by rw [Xf]; omega) ?_))
       refine Xk rfl rfl Q0 (by exact Take.ent' (by repeat' constructor)) (XA rw_ hlk) ?_
       refine Qd rfl rfl (WpL.nil (Wp.block ?_))
       refine Qb (Qa (Qk (o2 := 0) rfl rfl rfl (Qn rfl rfl (by rfl) ?_)))
       refine QH rfl rfl rfl (Qd rfl rfl (WpL.nil (Qz rfl hK (Qb (Qa ?_)))))
       refine Qw (vs := [_, _, _, _]) rfl rfl rfl (by rfl) ?_
       refine Qi rfl rfl (by repeat' constructor) (Zd _ _ _ _) ?_
       rintro _ _ ⟨rfl, rfl⟩
       simp only [Qs]
       refine QH rfl rfl rfl (Qd rfl rfl (WpL.nil (Qz rfl (by omega) ?_)))
       refine Qa (Qc rfl rfl (Qc rfl rfl (s_shr 256 rfl rfl rfl (by decide) (by decide) (XY rfl Tryz.underlying3 rfl (w_u8 (by omega) (by omega)) ?_))))
       refine Qc rfl rfl (s_cviw rfl Tryz.underlying3 rfl ?_)
       rw [wrap_u8]
       refine s_bs2 rfl rfl rfl rfl rfl rfl ?_
       intro g3
       refine XN rfl rfl rfl (by repeat' constructor) (by rfl) (by rfl) (by rfl) (by rfl) (by omega) (by omega) ?_
       intro aN cN
       rw [show ([.int .u8 (rw_[k]'hlk / 256), .int .u8 (rw_[k]'hlk % 256)] : List Value) = Xt (YA (Qg M) (rw_[k]'hlk)) from by rw [hw2]; rfl, show ∀ xs ys : List Int, Xt xs ++ Xt ys = Xt (xs ++ ys) from fun xs ys => by simp [Xt], Vk hlk]
       refine Qd rfl rfl (WpL.nil (Qa (QA rfl rfl rfl (Qo (by omega) (by omega)) ?_)))
       refine Qc rfl rfl (WpL.nil (Qq (⟨k + 1, aN, cN, mB + 2⟩ : WjX) ?_ ?_ (by ((repeat (first | exact Top.refl | refine Top.push rfl ?_)); done)) (by repeat (first | exact FrLe.nil | refine FrLe.cons rfl ?_)) ?_))
       ·exact ⟨by simp only; omega, by simp only; rw [← Vk hlk, List.length_append, ← hmB, hw2, encS2]; rfl⟩
       ·simp only; omega
       ·exact Ent.refl _
      ·have hke : k = rw_.length := by omega
       subst hke
       rw [List.take_length] at hmB ⊢
       have hRB : Zn K (Qg M) rw_ = rw_.flatMap (YA (Qg M)) := if_neg hK
       rw [← hRB] at hmB ⊢
       have hmst : mB = st := hmB.trans (hRBl.trans hstd.symm)
       rw [hmst]
       refine QP (Qa (Qc rfl rfl (Qc rfl rfl ?_)))
       refine Qw (vs := [_, _, _, _]) rfl rfl rfl (by rfl) ?_
       refine Qi rfl rfl (by repeat' constructor) (ZY _ _ _ _ hR) ?_
       rintro _ _ ⟨rfl, rfl⟩
       simp only [Qs]
       rw [← hstd]
       refine Xv rfl rfl rfl (Qo (by omega) (by omega)) ?_
       rw [hyst]
       refine Z9 (L := st * y) rfl rfl rfl rfl (by omega) ?_
       refine Qc rfl rfl (s_copyo rfl rfl rfl (by repeat' constructor) (by omega) (by omega) (by omega) (Ve _) ?_)
       rw [row_putU (by rw [hstd]; exact Ya hw hpl hul y hy) (hRBl.trans hstd.symm) hyN, show Zn K (Qg M) rw_ = Zn K (Qg M) (((px.drop (y * W)).take W).flatMap Qp) from by rw [hrw, hrow], ← Zt]
       refine WpL.nil (Qa (QA rfl rfl rfl (Qo (by omega) (by omega)) ?_))
       refine Qc rfl rfl (WpL.nil (Qq (⟨y + 1⟩ : WyX) ?_ ?_ (by ((repeat (first | exact Top.refl | refine Top.push rfl ?_)); done)) (by repeat (first | exact FrLe.nil | refine FrLe.cons rfl ?_)) ?_))
       ·simp only; omega
       ·simp only; omega
       ·exact Take.ent' (by repeat' constructor)
  ·have hye : y = Hn := by omega
   have hwl := Ya (K := K) (w := Qg M) hw hpl hul Hn (Nat.le_refl _)
   rw [← hstd] at hwl
   rw [hye, show zs (st * Hn - st * Hn) = [] from by rw [Nat.sub_self]; rfl, List.append_nil, ← hwl]
   refine QP (Qb (Qa (Qc rfl rfl (Qd rfl rfl (Qd rfl rfl (WpL.nil (Qh ?_)))))))
   apply RetQ.mk
   ·exact (QM rfl rfl rfl)
   ·exact ⟨_, _, rfl, Nat.le_refl _, rfl⟩
   ·exact Take.ent' (by repeat' constructor)

end Go.Proofs.YtggamdlpiejbiaaGreat
namespace Go.Proofs.YtggamdlpiejbiaaGreat
open Go.RowKit Go.Shelf


theorem RawWrite_spec (A0 : HP) (a0 : Option Addr) (c0 : Nat) (px : List Int) (hA : RdsL [A0] a0 (XQ px)) (hr : ∀ p ∈ px, 0 ≤ p ∧ p < 18446744073709551616) (hc : px.length ≤ c0) (K : Int) (W Hn : Nat) (M : Int) (hR : RawH K (W : Int) (Hn : Int) M) (hpl : px.length = W * Hn) (hfit : ∀ p ∈ px, Yw p (QR K) M) : Fn Tryz.prog 91 #[.slice a0 px.length c0, .agg #[.int .i64 K, .int .i64 (W : Int), .int .i64 (Hn : Int), .int .i64 M]] [A0] (fun v l => ∃ a c, v = .tuple #[.slice a (Xl K W (Qg M) px Hn).length c, .int .i64 0] ∧ (Xl K W (Qg M) px Hn).length ≤ c ∧ l = [QX 5 1 a c (Xl K W (Qg M) px Hn).length (Xt (Xl K W (Qg M) px Hn)), A0]) := by
  by_cases h4 : K = 4
  · exact RawWrite_a A0 a0 c0 px hA hr hc K W Hn M hR hpl hfit h4
  · by_cases hM : M ≤ 255
    · exact RawWrite_b A0 a0 c0 px hA hr hc K W Hn M hR hpl hfit h4 hM
    · exact RawWrite_c A0 a0 c0 px hA hr hc K W Hn M hR hpl hfit h4 hM
theorem wrRaw_bd {K M : Int} {W : Nat} {px : List Int} {n : Nat} (hM : 1 ≤ M ∧ M ≤ 65535) (h4 : K = 4 → M = 1) (hc : ∀ p ∈ px, Can (QR K) M p) : ∀ b ∈ Xl K W (Qg M) px n, 0 ≤ b ∧ b ≤ 255 := by
  intro b hb
  obtain ⟨r, hr, hb⟩ := List.mem_flatten.1 hb
  obtain ⟨y, _, rfl⟩ := List.mem_map.1 hr
  have hs : ∀ x ∈ ((px.drop (y * W)).take W).flatMap Qp, 0 ≤ x ∧ x ≤ M := fun x hx => by
    obtain ⟨p, hp, hx⟩ := List.mem_flatMap.1 hx
    exact (hc p (List.mem_of_mem_drop (List.mem_of_mem_take hp))).2.2 x hx
  unfold Zn at hb
  split at hb
  · rename_i hK
    have := h4 hK
    exact packB_bd (fun x hx => by have := hs x hx; unfold ZD; omega) b hb
  · refine enc_bd (fun x hx => by have := hs x hx; omega) (fun hw x hx => ?_) b hb
    have := hs x hx
    unfold Qg at hw
    split at hw
    · cases hw
    · omega
end Go.Proofs.YtggamdlpiejbiaaGreat
