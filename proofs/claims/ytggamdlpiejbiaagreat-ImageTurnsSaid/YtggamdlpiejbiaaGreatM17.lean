/- Walks and plain laws, a part of the proof of ImageTurns: every input that the law's guards let in, no condition beside. -/
import Derived.Test.YtggamdlpiejbiaaGreatM16
namespace Go.Proofs.YtggamdlpiejbiaaGreat
open Go.RowKit Go.Shelf


theorem row_putU {A R : List Int} {n st N : Nat} (hA : A.length = st * n) (hR : R.length = st) (hN : st * (n + 1) ≤ N) : (Xn (A ++ zs (N - st * n))).take (st * n) ++ Xn R ++ (Xn (A ++ zs (N - st * n))).drop (st * n + st) = Xn ((A ++ R) ++ zs (N - st * (n + 1))) := by
  rw [← row_put hA hR hN]
  simp [Xn, List.map_take, List.map_drop]
theorem wrap_u8 (x : Int) : IntKind.u8.wrap x = x % 256 := by simp [IntKind.wrap, IntKind.bits, IntKind.signed]
theorem encS1 (x : Int) : Y8 1 x = [x] := rfl
theorem encS2 (x : Int) : Y8 2 x = [x / 256, x % 256] := rfl

set_option maxHeartbeats 2000000 in
theorem RawWrite_a (A0 : HP) (a0 : Option Addr) (c0 : Nat) (px : List Int) (hA : RdsL [A0] a0 (Q5 px)) (hr : ∀ p ∈ px, 0 ≤ p ∧ p < 18446744073709551616) (hc : px.length ≤ c0) (K : Int) (W Hn : Nat) (M : Int) (hR : RawH K (W : Int) (Hn : Int) M) (hpl : px.length = W * Hn) (hfit : ∀ p ∈ px, X1 p (QZ K) M) (hK : K = 4) : Fn Tryz.prog 91 #[.slice a0 px.length c0, .agg #[.int .i64 K, .int .i64 (W : Int), .int .i64 (Hn : Int), .int .i64 M]] [A0] (fun v l => ∃ a c, v = .tuple #[.slice a (Xk K W (Qi M) px Hn).length c, .int .i64 0] ∧ (Xk K W (Qi M) px Hn).length ≤ c ∧ l = [QG 5 1 a c (Xk K W (Qi M) px Hn).length (Xn (Xk K W (Qi M) px Hn)), A0]) := by
 have hb := hR.bd
 have hch := Ye K
 have hw := Q4 M
 have hsb := XZ (K := K) (W := W) hw (by omega) (by omega)
 have hWH : W * Hn ≤ 4096 * 65536 := Nat.mul_le_mul (by omega) (by omega)
 have hWHi : (W : Int) * (Hn : Int) = ((W * Hn : Nat) : Int) := by push_cast; rfl
 obtain ⟨st, hstd⟩ : ∃ st, st = QD K W (Qi M) := ⟨_, rfl⟩
 rw [← hstd] at hsb
 have hN : st * Hn ≤ 24576 * 65536 := Nat.mul_le_mul (by omega) (by omega)
 have hul : ∀ p ∈ px, (Qp p).length = (QZ K).toNat := fun p hp => by have := can_fit (hfit p hp); omega
 refine Qk (vs := [.slice a0 px.length c0, .agg #[.int .i64 K, .int .i64 (W : Int), .int .i64 (Hn : Int), .int .i64 M]]) Tryz.func91 rfl Tryz.ntmps91 rfl (Qb (Qa (QP rfl rfl rfl ?_)))
 intro g1
 refine Qe rfl rfl (Qe rfl rfl (WpL.nil (Qb (Qa ?_))))
 refine Qz (vs := [_, _, _, _]) rfl rfl rfl (by rfl) ?_
 refine Qg rfl rfl (by repeat' constructor) (Xo _ _ _ _ (by omega)) ?_
 rintro _ _ ⟨rfl, rfl⟩
 simp only [Qr]
 rw [show (if K % 3 = 0 then (3 : Int) else 1) = QZ K from rfl]
 refine XK rfl ?_
 intro gF
 refine QY rfl rfl rfl (by rfl) rfl ?_
 refine WpL.nil (Qb (Qa (s_mkf rfl (fun a hh => XO hh _ _ rfl) ?_)))
 refine Qe rfl rfl (WpL.nil (Qb (Qb (Qa ?_))))
 refine Qz (vs := [_, _, _, _]) rfl rfl rfl (by rfl) ?_
 refine Qg rfl rfl (by repeat' constructor) (Za _ _ _ _ hR) ?_
 rintro _ _ ⟨gR, gB, b0, hb0, hb0z, rfl, rfl⟩
 simp only [Qr]
 refine Qd rfl rfl (QC rfl rfl rfl (QC rfl rfl rfl (Qe rfl rfl (Qe rfl rfl (WpL.nil (Qb (Qa (Qd rfl rfl (Xj rfl rfl rfl (Qd rfl rfl (Qu (dj := 28) rfl (by decide) ?_)))))))))))
 refine Qf rfl rfl (Qd rfl rfl (Qf rfl rfl (QK rfl rfl (Qf rfl rfl (Qj (o2 := 1) rfl rfl rfl (Qf rfl rfl (Qo rfl rfl (by rfl) ?_)))))))
 refine Qf rfl rfl (Qj (o2 := 2) rfl rfl rfl (Qf rfl rfl (Qo rfl rfl (by rfl) ?_)))
 refine Qf rfl rfl (Xz rfl rfl rfl (Qt (by omega) (by omega)) ?_)
 rw [hWHi]
 refine Qf rfl rfl (Xj rfl rfl rfl (Qq rfl rfl rfl (Qd rfl rfl (Qu (dj := 38) rfl (decide_eq_false (fun h => h (by omega))) ?_))))
 refine Qf rfl rfl (Qd rfl rfl (Qf rfl rfl (Qd rfl rfl (Qf rfl rfl (Qg rfl rfl (by repeat' constructor) (Yo A0 a0 c0 px hA hr (by omega) gF (QZ K) M) ?_)))))
 rintro _ _ ⟨rfl, rfl⟩
 simp only [Qr]
 refine Qq rfl rfl rfl (WpL.nil (QA rfl (fun h => h hfit) ?_))
 refine Wp.skip (Qb (Qa ?_))
 refine Qz (vs := [_, _, _, _]) rfl rfl rfl (by rfl) ?_
 refine Qg rfl rfl (by repeat' constructor) (Size_spec _ _ _ _ hR) ?_
 rintro _ _ ⟨rfl, rfl⟩
 simp only [Qr]
 rw [← hstd]
 refine s_mko (st * Hn) rfl rfl rfl (by omega) (by omega) rfl ?_
 intro gO
 rw [u8s_zero, show List.replicate (st * Hn) (0 : Int) = Xk K W (Qi M) px 0 ++ zs (st * Hn - st * 0) from rfl]
 refine Qe rfl rfl (WpL.nil (Qb (Qb (Qa (Qj (o2 := 2) rfl rfl rfl (Qo rfl rfl (by rfl) ?_))))))
 refine Qd rfl rfl (WpL.nil (Wp.block ?_))
 refine Wp.loopD (σ := WyX) (fun x => x.y ≤ Hn) [11, 12, 13, 15, 17, 48, 49, 50, 51, 52, 53, 54, 55, 56, 57, 58, 59, 60, 61, 62, 63, 64, 65, 66, 67, 68, 69, 70, 71, 72, 73, 74, 75, 76, 77, 78, 79, 80, 81, 82, 83, 84, 85, 86, 87, 88, 89, 90, 91, 92, 93, 94, 95, 96, 97, 98, 99, 100, 101, 102, 103, 104, 105, 106, 107, 108, 109, 110, 111, 112, 113, 114, 115, 116] (fun x => [(48, .int .i64 (x.y : Int))]) (fun x => [QG 5 1 (some ⟨gO, 0, none⟩) (st * Hn) (st * Hn) (Xn (Xk K W (Qi M) px x.y ++ zs (st * Hn - st * x.y))), QB g1 [.int .i64 K, .int .i64 (W : Int), .int .i64 (Hn : Int), .int .i64 M] 98, A0]) (fun x => Hn - x.y) ⟨0⟩ ?_ (by repeat (first | exact FrLe.nil | refine FrLe.cons rfl ?_)) ?_ ?_
 ·exact Nat.zero_le _
 ·exact Take.ent' (by repeat' constructor)
 ·rintro ⟨y⟩ hy
  dsimp only at hy ⊢
  refine Qb (Qa (Q6 rfl rfl rfl (WpL.nil (Qb (Qm rfl (fun h2 => ?_) (fun h2 => ?_))))))
  ·have hlt : y < Hn := by omega
   have hkW : (y + 1) * W = y * W + W := by rw [Nat.add_mul, Nat.one_mul]
   have hkW2 : (y + 1) * W ≤ Hn * W := Nat.mul_le_mul_right _ hlt
   rw [Nat.mul_comm Hn W] at hkW2
   have ei1 : (y : Int) * (W : Int) = ((y * W : Nat) : Int) := by push_cast; rfl
   have ei2 : ((y : Int) + 1) * (W : Int) = (((y + 1) * W : Nat) : Int) := by push_cast; rfl
   have hyN : st * (y + 1) ≤ st * Hn := Nat.mul_le_mul_left _ hlt
   have hyS : st * (y + 1) = st * y + st := by rw [Nat.mul_add, Nat.mul_one]
   have hyst : (y : Int) * (st : Int) = ((st * y : Nat) : Int) := by push_cast; rw [Int.mul_comm]
   refine Wp.skip (Qb (Wp.block ?_))
   refine Qb (Qa (Qd rfl rfl (Qe rfl rfl (WpL.nil (Qb (Qa (Qe rfl rfl (WpL.nil (Qb (Qa (Qe rfl rfl (WpL.nil ?_))))))))))))
   refine Qb (Qb (Qa (Qd rfl rfl (Qd rfl rfl (Qj (o2 := 1) rfl rfl rfl (Qo rfl rfl (by rfl) ?_))))))
   refine Xz rfl rfl rfl (Qt (by omega) (by omega)) ?_
   rw [ei1]
   refine Qd rfl rfl (QE rfl rfl rfl (Qt (by omega) (by omega)) ?_)
   refine Qj (o2 := 1) rfl rfl rfl (Qo rfl rfl (by rfl) ?_)
   refine Xz rfl rfl rfl (Qt (by omega) (by omega)) ?_
   rw [ei2]
   refine s_sll_lh (L := y * W) (H := (y + 1) * W) rfl rfl rfl rfl rfl rfl (by omega) (by omega) ?_
   refine QK rfl rfl (Qd rfl rfl (WpL.nil (Wp.block ?_)))
   have hRw := hA.sla (y * W) ((y + 1) * W) c0 1 (by omega)
   rw [pxs_sub] at hRw
   rw [show (y + 1) * W - y * W = W by omega] at hRw ⊢
   obtain ⟨row, hrow⟩ : ∃ row, row = (px.drop (y * W)).take W := ⟨_, rfl⟩
   have hrl : row.length = W := by rw [hrow, List.length_take, List.length_drop]; omega
   have hrp : ∀ p ∈ row, p ∈ px := fun p hp => by rw [hrow] at hp; exact List.mem_of_mem_drop (List.mem_of_mem_take hp)
   rw [← hrow] at hRw
   refine Wp.loopD (σ := WjX) (fun z => z.j ≤ W ∧ z.m = ((row.take z.j).flatMap Qp).length) [13, 15, 63, 64, 65, 66, 67, 68, 69, 70, 71] (fun z => [(63, .int .i64 (z.j : Int)), (13, .slice z.a z.m z.c)]) (fun z => [QG 3 1 z.a z.c z.m (QU ((row.take z.j).flatMap Qp)), QG 5 1 (some ⟨gO, 0, none⟩) (st * Hn) (st * Hn) (Xn (Xk K W (Qi M) px y ++ zs (st * Hn - st * y))), QB g1 [.int .i64 K, .int .i64 (W : Int), .int .i64 (Hn : Int), .int .i64 M] 98, A0]) (fun z => W - z.j) ⟨0, none, 0, 0⟩ ?_ (by repeat (first | exact FrLe.nil | refine FrLe.cons rfl ?_)) ?_ ?_
   ·exact ⟨Nat.zero_le _, rfl⟩
   ·exact Ent.own_nil (T := 3) (s := 1) (Ent.refl _)
   ·rintro ⟨j, aR, cR, m⟩ ⟨hj, hm⟩
    dsimp only at hj hm ⊢
    have hml := flat_le (row.take j)
    rw [← hm, List.length_take] at hml
    refine Qb (Qa (Q6 rfl rfl rfl (WpL.nil (Qb (Qm rfl (fun h4 => ?_) (fun h4 => ?_))))))
    ·have hlj : j < row.length := by omega
     have hpp := hrp _ (List.getElem_mem hlj)
     have hpb := hr _ hpp
     have hun := hul _ hpp
     have hul3 := Xs (row[j]'hlj)
     refine Wp.skip (Qb (Wp.block ?_))
     refine Qb (Qa (Q3 j rfl rfl rfl hRw (by exact Take.ent' (by repeat' constructor)) rfl (by omega) (by rw [Xt]; omega) ?_))
     refine Xb rfl rfl hRw (by exact Take.ent' (by repeat' constructor)) (Yg row hlj) ?_
     refine Qe rfl rfl (WpL.nil (Qa (Qd rfl rfl (Qd rfl rfl (Qg rfl rfl (by repeat' constructor) (XI _ hpb.1 hpb.2) ?_)))))
     rintro _ _ ⟨A1, a1, c1, rfl, rfl, hA1, hn1⟩
     simp only [Qr]
     refine s_appr rfl rfl rfl (by repeat' constructor) hA1 (by exact Take.ent' (by repeat' constructor)) (ints_ne (fun e => by rw [e] at hun; simp at hun; omega)) (by rw [QX, Nat.mul_one]) (by rfl) (by rfl) (ints_one _) (by omega) (by omega) ?_
     intro a70 c70
     rw [ints_app, YY hlj]
     refine Qe rfl rfl (WpL.nil (Qa (QE rfl rfl rfl (Qt (by omega) (by omega)) ?_)))
     refine Qd rfl rfl (WpL.nil (Qy (⟨j + 1, a70, c70, m + (Qp (row[j]'hlj)).length⟩ : WjX) ?_ ?_ (by ((repeat (first | exact Top.refl | refine Top.push rfl ?_)); done)) (by repeat (first | exact FrLe.nil | refine FrLe.cons rfl ?_)) ?_))
     ·exact ⟨by simp only; omega, by simp only; rw [← YY hlj, List.length_append, ← hm]⟩
     ·simp only; omega
     ·exact Take.ent' (by repeat' constructor)
    ·have hje : j = row.length := by omega
     subst hje
     rw [List.take_length] at hm ⊢
     obtain ⟨rw_, hrw⟩ : ∃ q, q = row.flatMap Qp := ⟨_, rfl⟩
     rw [← hrw] at hm ⊢
     subst hm
     have hrwl : rw_.length = W * (QZ K).toNat := by rw [hrw, flat_len row (fun p hp => hul p (hrp p hp)), hrl]
     have hrwb : ∀ x ∈ rw_, 0 ≤ x ∧ x ≤ M := fun x hx => by
      rw [hrw] at hx
      obtain ⟨p, hp, hx⟩ := List.mem_flatMap.1 hx
      exact ⟨(X5 p x hx).1, (hfit p (hrp p hp)).2.2 x hx⟩
     have hrwl2 : 1 ≤ rw_.length ∧ rw_.length ≤ 12288 := by rw [hrwl]; rcases hch with e | e <;> rw [e] <;> simp <;> omega
     have hRBl : (Zn K (Qi M) rw_).length = QD K W (Qi M) := by
      by_cases h9 : K = 4
      ·have e1 : (QZ K).toNat = 1 := by rw [h9]; rfl
       rw [show Zn K (Qi M) rw_ = packB rw_ from if_pos h9, show QD K W (Qi M) = (W + 7) / 8 from if_pos h9, packB_len, hrwl, e1, Nat.mul_one]
      ·rw [show Zn K (Qi M) rw_ = rw_.flatMap (Y8 (Qi M)) from if_neg h9, show QD K W (Qi M) = W * (QZ K).toNat * Qi M from if_neg h9, enc_len hw, hrwl]
     have hch1 : (QZ K).toNat = 1 := by rw [hK]; rfl
     rw [hch1, Nat.mul_one] at hrwl
     refine QL (Qb (Qb (Qa (Qj (o2 := 0) rfl rfl rfl (Qo rfl rfl (by rfl) ?_)))))
     refine QO rfl rfl rfl (WpL.nil (QN rfl hK (Qa (Qd rfl rfl (Qg rfl rfl (by repeat' constructor) (PackB_spec _ _ _ rw_ QI (fun x hx => by have := hrwb x hx; have := hb.2.2.2.2 hK; unfold bitv; omega) (by omega) (by omega)) ?_)))))
     rintro _ _ ⟨gP, rfl, rfl⟩
     simp only [Qr]
     refine Qd rfl rfl (QC rfl rfl rfl (QC rfl rfl rfl (Qe rfl rfl (WpL.nil (Qb (Qb (Qa (Qd rfl rfl (QK rfl rfl (Qd rfl rfl (WpL.nil (Wp.block ?_))))))))))))
     refine Wp.loopD (σ := Nat) (fun k => k ≤ rw_.length) [12, 17, 82, 83, 84, 85, 86, 87, 88, 89, 90, 91, 92, 93, 94, 95, 96, 97, 98, 99, 100, 101, 102, 103, 104, 105, 106, 107] (fun k => [(82, .int .i64 (k : Int)), (12, .slice (some ⟨gP, 0, none⟩) ((rw_.length + 7) / 8) ((rw_.length + 7) / 8))]) (fun k => [QG 5 1 (some ⟨gP, 0, none⟩) ((rw_.length + 7) / 8) ((rw_.length + 7) / 8) (Xn (packB rw_)), QG 3 1 aR cR rw_.length (QU (rw_)), QG 5 1 (some ⟨gO, 0, none⟩) (st * Hn) (st * Hn) (Xn (Xk K W (Qi M) px y ++ zs (st * Hn - st * y))), QB g1 [.int .i64 K, .int .i64 (W : Int), .int .i64 (Hn : Int), .int .i64 M] 98, A0]) (fun k => rw_.length - k) 0 ?_ (by repeat (first | exact FrLe.nil | refine FrLe.cons rfl ?_)) ?_ ?_
     ·exact Nat.zero_le _
     ·exact Ent.refl _
     ·rintro k hk
      refine Qb (Qa (Q6 rfl rfl rfl (WpL.nil (Qb (Qm rfl (fun h7 => ?_) (fun h7 => ?_))))))
      ·have hlk : k < rw_.length := by omega
       have hxb := hrwb _ (List.getElem_mem hlk)
       refine Wp.skip (Qb (Wp.block ?_))
       refine Qb (Qa (Q3 k rfl rfl rfl QI (by exact Take.ent' (by repeat' constructor)) rfl (by omega) (by rw [QX]; omega) ?_))
       refine Xb rfl rfl QI (by exact Take.ent' (by repeat' constructor)) (XX rw_ hlk) ?_
       refine Qe rfl rfl (WpL.nil (Wp.block ?_))
       refine Qb (Qa (Qj (o2 := 0) rfl rfl rfl (Qo rfl rfl (by rfl) ?_)))
       refine QO rfl rfl rfl (Qe rfl rfl (WpL.nil (QN rfl hK (Wp.skip (Qa (QE rfl rfl rfl (Qt (by omega) (by omega)) ?_))))))
       refine Qd rfl rfl (WpL.nil (Qy (k + 1) ?_ ?_ (by ((repeat (first | exact Top.refl | refine Top.push rfl ?_)); done)) (by repeat (first | exact FrLe.nil | refine FrLe.cons rfl ?_)) ?_))
       ·omega
       ·omega
       ·exact Ent.refl _
      ·have hRB : Zn K (Qi M) rw_ = packB rw_ := if_pos hK
       rw [show (rw_.length + 7) / 8 = st by rw [hrwl, hstd, hK]; exact (if_pos rfl : QD 4 W (Qi M) = _).symm, ← hRB]
       refine QL (Qa (Qd rfl rfl (Qd rfl rfl ?_)))
       refine Qz (vs := [_, _, _, _]) rfl rfl rfl (by rfl) ?_
       refine Qg rfl rfl (by repeat' constructor) (Zb _ _ _ _ hR) ?_
       rintro _ _ ⟨rfl, rfl⟩
       simp only [Qr]
       rw [← hstd]
       refine Xz rfl rfl rfl (Qt (by omega) (by omega)) ?_
       rw [hyst]
       refine s_sll_l (L := st * y) rfl rfl rfl rfl (by omega) ?_
       refine Qd rfl rfl (s_copyo rfl rfl rfl (by repeat' constructor) (by omega) (by omega) (by omega) (u8s_one _) ?_)
       rw [row_putU (by rw [hstd]; exact Ym hw hpl hul y hy) (hRBl.trans hstd.symm) hyN, show Zn K (Qi M) rw_ = Zn K (Qi M) (((px.drop (y * W)).take W).flatMap Qp) from by rw [hrw, hrow], ← ZE]
       refine WpL.nil (Qa (QE rfl rfl rfl (Qt (by omega) (by omega)) ?_))
       refine Qd rfl rfl (WpL.nil (Qy (⟨y + 1⟩ : WyX) ?_ ?_ (by ((repeat (first | exact Top.refl | refine Top.push rfl ?_)); done)) (by repeat (first | exact FrLe.nil | refine FrLe.cons rfl ?_)) ?_))
       ·simp only; omega
       ·simp only; omega
       ·exact Take.ent' (by repeat' constructor)
  ·have hye : y = Hn := by omega
   have hwl := Ym (K := K) (w := Qi M) hw hpl hul Hn (Nat.le_refl _)
   rw [← hstd] at hwl
   rw [hye, show zs (st * Hn - st * Hn) = [] from by rw [Nat.sub_self]; rfl, List.append_nil, ← hwl]
   refine QL (Qb (Qa (Qd rfl rfl (Qe rfl rfl (Qe rfl rfl (WpL.nil (Qh ?_)))))))
   apply RetQ.mk
   ·exact (QF rfl rfl rfl)
   ·exact ⟨_, _, rfl, Nat.le_refl _, rfl⟩
   ·exact Take.ent' (by repeat' constructor)

set_option maxHeartbeats 2000000 in
theorem RawWrite_b (A0 : HP) (a0 : Option Addr) (c0 : Nat) (px : List Int) (hA : RdsL [A0] a0 (Q5 px)) (hr : ∀ p ∈ px, 0 ≤ p ∧ p < 18446744073709551616) (hc : px.length ≤ c0) (K : Int) (W Hn : Nat) (M : Int) (hR : RawH K (W : Int) (Hn : Int) M) (hpl : px.length = W * Hn) (hfit : ∀ p ∈ px, X1 p (QZ K) M) (hK : K ≠ 4) (hM : M ≤ 255) : Fn Tryz.prog 91 #[.slice a0 px.length c0, .agg #[.int .i64 K, .int .i64 (W : Int), .int .i64 (Hn : Int), .int .i64 M]] [A0] (fun v l => ∃ a c, v = .tuple #[.slice a (Xk K W (Qi M) px Hn).length c, .int .i64 0] ∧ (Xk K W (Qi M) px Hn).length ≤ c ∧ l = [QG 5 1 a c (Xk K W (Qi M) px Hn).length (Xn (Xk K W (Qi M) px Hn)), A0]) := by
 have hb := hR.bd
 have hch := Ye K
 have hw := Q4 M
 have hsb := XZ (K := K) (W := W) hw (by omega) (by omega)
 have hWH : W * Hn ≤ 4096 * 65536 := Nat.mul_le_mul (by omega) (by omega)
 have hWHi : (W : Int) * (Hn : Int) = ((W * Hn : Nat) : Int) := by push_cast; rfl
 obtain ⟨st, hstd⟩ : ∃ st, st = QD K W (Qi M) := ⟨_, rfl⟩
 rw [← hstd] at hsb
 have hN : st * Hn ≤ 24576 * 65536 := Nat.mul_le_mul (by omega) (by omega)
 have hul : ∀ p ∈ px, (Qp p).length = (QZ K).toNat := fun p hp => by have := can_fit (hfit p hp); omega
 refine Qk (vs := [.slice a0 px.length c0, .agg #[.int .i64 K, .int .i64 (W : Int), .int .i64 (Hn : Int), .int .i64 M]]) Tryz.func91 rfl Tryz.ntmps91 rfl (Qb (Qa (QP rfl rfl rfl ?_)))
 intro g1
 refine Qe rfl rfl (Qe rfl rfl (WpL.nil (Qb (Qa ?_))))
 refine Qz (vs := [_, _, _, _]) rfl rfl rfl (by rfl) ?_
 refine Qg rfl rfl (by repeat' constructor) (Xo _ _ _ _ (by omega)) ?_
 rintro _ _ ⟨rfl, rfl⟩
 simp only [Qr]
 rw [show (if K % 3 = 0 then (3 : Int) else 1) = QZ K from rfl]
 refine XK rfl ?_
 intro gF
 refine QY rfl rfl rfl (by rfl) rfl ?_
 refine WpL.nil (Qb (Qa (s_mkf rfl (fun a hh => XO hh _ _ rfl) ?_)))
 refine Qe rfl rfl (WpL.nil (Qb (Qb (Qa ?_))))
 refine Qz (vs := [_, _, _, _]) rfl rfl rfl (by rfl) ?_
 refine Qg rfl rfl (by repeat' constructor) (Za _ _ _ _ hR) ?_
 rintro _ _ ⟨gR, gB, b0, hb0, hb0z, rfl, rfl⟩
 simp only [Qr]
 refine Qd rfl rfl (QC rfl rfl rfl (QC rfl rfl rfl (Qe rfl rfl (Qe rfl rfl (WpL.nil (Qb (Qa (Qd rfl rfl (Xj rfl rfl rfl (Qd rfl rfl (Qu (dj := 28) rfl (by decide) ?_)))))))))))
 refine Qf rfl rfl (Qd rfl rfl (Qf rfl rfl (QK rfl rfl (Qf rfl rfl (Qj (o2 := 1) rfl rfl rfl (Qf rfl rfl (Qo rfl rfl (by rfl) ?_)))))))
 refine Qf rfl rfl (Qj (o2 := 2) rfl rfl rfl (Qf rfl rfl (Qo rfl rfl (by rfl) ?_)))
 refine Qf rfl rfl (Xz rfl rfl rfl (Qt (by omega) (by omega)) ?_)
 rw [hWHi]
 refine Qf rfl rfl (Xj rfl rfl rfl (Qq rfl rfl rfl (Qd rfl rfl (Qu (dj := 38) rfl (decide_eq_false (fun h => h (by omega))) ?_))))
 refine Qf rfl rfl (Qd rfl rfl (Qf rfl rfl (Qd rfl rfl (Qf rfl rfl (Qg rfl rfl (by repeat' constructor) (Yo A0 a0 c0 px hA hr (by omega) gF (QZ K) M) ?_)))))
 rintro _ _ ⟨rfl, rfl⟩
 simp only [Qr]
 refine Qq rfl rfl rfl (WpL.nil (QA rfl (fun h => h hfit) ?_))
 refine Wp.skip (Qb (Qa ?_))
 refine Qz (vs := [_, _, _, _]) rfl rfl rfl (by rfl) ?_
 refine Qg rfl rfl (by repeat' constructor) (Size_spec _ _ _ _ hR) ?_
 rintro _ _ ⟨rfl, rfl⟩
 simp only [Qr]
 rw [← hstd]
 refine s_mko (st * Hn) rfl rfl rfl (by omega) (by omega) rfl ?_
 intro gO
 rw [u8s_zero, show List.replicate (st * Hn) (0 : Int) = Xk K W (Qi M) px 0 ++ zs (st * Hn - st * 0) from rfl]
 refine Qe rfl rfl (WpL.nil (Qb (Qb (Qa (Qj (o2 := 2) rfl rfl rfl (Qo rfl rfl (by rfl) ?_))))))
 refine Qd rfl rfl (WpL.nil (Wp.block ?_))
 refine Wp.loopD (σ := WyX) (fun x => x.y ≤ Hn) [11, 12, 13, 15, 17, 48, 49, 50, 51, 52, 53, 54, 55, 56, 57, 58, 59, 60, 61, 62, 63, 64, 65, 66, 67, 68, 69, 70, 71, 72, 73, 74, 75, 76, 77, 78, 79, 80, 81, 82, 83, 84, 85, 86, 87, 88, 89, 90, 91, 92, 93, 94, 95, 96, 97, 98, 99, 100, 101, 102, 103, 104, 105, 106, 107, 108, 109, 110, 111, 112, 113, 114, 115, 116] (fun x => [(48, .int .i64 (x.y : Int))]) (fun x => [QG 5 1 (some ⟨gO, 0, none⟩) (st * Hn) (st * Hn) (Xn (Xk K W (Qi M) px x.y ++ zs (st * Hn - st * x.y))), QB g1 [.int .i64 K, .int .i64 (W : Int), .int .i64 (Hn : Int), .int .i64 M] 98, A0]) (fun x => Hn - x.y) ⟨0⟩ ?_ (by repeat (first | exact FrLe.nil | refine FrLe.cons rfl ?_)) ?_ ?_
 ·exact Nat.zero_le _
 ·exact Take.ent' (by repeat' constructor)
 ·rintro ⟨y⟩ hy
  dsimp only at hy ⊢
  refine Qb (Qa (Q6 rfl rfl rfl (WpL.nil (Qb (Qm rfl (fun h2 => ?_) (fun h2 => ?_))))))
  ·have hlt : y < Hn := by omega
   have hkW : (y + 1) * W = y * W + W := by rw [Nat.add_mul, Nat.one_mul]
   have hkW2 : (y + 1) * W ≤ Hn * W := Nat.mul_le_mul_right _ hlt
   rw [Nat.mul_comm Hn W] at hkW2
   have ei1 : (y : Int) * (W : Int) = ((y * W : Nat) : Int) := by push_cast; rfl
   have ei2 : ((y : Int) + 1) * (W : Int) = (((y + 1) * W : Nat) : Int) := by push_cast; rfl
   have hyN : st * (y + 1) ≤ st * Hn := Nat.mul_le_mul_left _ hlt
   have hyS : st * (y + 1) = st * y + st := by rw [Nat.mul_add, Nat.mul_one]
   have hyst : (y : Int) * (st : Int) = ((st * y : Nat) : Int) := by push_cast; rw [Int.mul_comm]
   refine Wp.skip (Qb (Wp.block ?_))
   refine Qb (Qa (Qd rfl rfl (Qe rfl rfl (WpL.nil (Qb (Qa (Qe rfl rfl (WpL.nil (Qb (Qa (Qe rfl rfl (WpL.nil ?_))))))))))))
   refine Qb (Qb (Qa (Qd rfl rfl (Qd rfl rfl (Qj (o2 := 1) rfl rfl rfl (Qo rfl rfl (by rfl) ?_))))))
   refine Xz rfl rfl rfl (Qt (by omega) (by omega)) ?_
   rw [ei1]
   refine Qd rfl rfl (QE rfl rfl rfl (Qt (by omega) (by omega)) ?_)
   refine Qj (o2 := 1) rfl rfl rfl (Qo rfl rfl (by rfl) ?_)
   refine Xz rfl rfl rfl (Qt (by omega) (by omega)) ?_
   rw [ei2]
   refine s_sll_lh (L := y * W) (H := (y + 1) * W) rfl rfl rfl rfl rfl rfl (by omega) (by omega) ?_
   refine QK rfl rfl (Qd rfl rfl (WpL.nil (Wp.block ?_)))
   have hRw := hA.sla (y * W) ((y + 1) * W) c0 1 (by omega)
   rw [pxs_sub] at hRw
   rw [show (y + 1) * W - y * W = W by omega] at hRw ⊢
   obtain ⟨row, hrow⟩ : ∃ row, row = (px.drop (y * W)).take W := ⟨_, rfl⟩
   have hrl : row.length = W := by rw [hrow, List.length_take, List.length_drop]; omega
   have hrp : ∀ p ∈ row, p ∈ px := fun p hp => by rw [hrow] at hp; exact List.mem_of_mem_drop (List.mem_of_mem_take hp)
   rw [← hrow] at hRw
   refine Wp.loopD (σ := WjX) (fun z => z.j ≤ W ∧ z.m = ((row.take z.j).flatMap Qp).length) [13, 15, 63, 64, 65, 66, 67, 68, 69, 70, 71] (fun z => [(63, .int .i64 (z.j : Int)), (13, .slice z.a z.m z.c)]) (fun z => [QG 3 1 z.a z.c z.m (QU ((row.take z.j).flatMap Qp)), QG 5 1 (some ⟨gO, 0, none⟩) (st * Hn) (st * Hn) (Xn (Xk K W (Qi M) px y ++ zs (st * Hn - st * y))), QB g1 [.int .i64 K, .int .i64 (W : Int), .int .i64 (Hn : Int), .int .i64 M] 98, A0]) (fun z => W - z.j) ⟨0, none, 0, 0⟩ ?_ (by repeat (first | exact FrLe.nil | refine FrLe.cons rfl ?_)) ?_ ?_
   ·exact ⟨Nat.zero_le _, rfl⟩
   ·exact Ent.own_nil (T := 3) (s := 1) (Ent.refl _)
   ·rintro ⟨j, aR, cR, m⟩ ⟨hj, hm⟩
    dsimp only at hj hm ⊢
    have hml := flat_le (row.take j)
    rw [← hm, List.length_take] at hml
    refine Qb (Qa (Q6 rfl rfl rfl (WpL.nil (Qb (Qm rfl (fun h4 => ?_) (fun h4 => ?_))))))
    ·have hlj : j < row.length := by omega
     have hpp := hrp _ (List.getElem_mem hlj)
     have hpb := hr _ hpp
     have hun := hul _ hpp
     have hul3 := Xs (row[j]'hlj)
     refine Wp.skip (Qb (Wp.block ?_))
     refine Qb (Qa (Q3 j rfl rfl rfl hRw (by exact Take.ent' (by repeat' constructor)) rfl (by omega) (by rw [Xt]; omega) ?_))
     refine Xb rfl rfl hRw (by exact Take.ent' (by repeat' constructor)) (Yg row hlj) ?_
     refine Qe rfl rfl (WpL.nil (Qa (Qd rfl rfl (Qd rfl rfl (Qg rfl rfl (by repeat' constructor) (XI _ hpb.1 hpb.2) ?_)))))
     rintro _ _ ⟨A1, a1, c1, rfl, rfl, hA1, hn1⟩
     simp only [Qr]
     refine s_appr rfl rfl rfl (by repeat' constructor) hA1 (by exact Take.ent' (by repeat' constructor)) (ints_ne (fun e => by rw [e] at hun; simp at hun; omega)) (by rw [QX, Nat.mul_one]) (by rfl) (by rfl) (ints_one _) (by omega) (by omega) ?_
     intro a70 c70
     rw [ints_app, YY hlj]
     refine Qe rfl rfl (WpL.nil (Qa (QE rfl rfl rfl (Qt (by omega) (by omega)) ?_)))
     refine Qd rfl rfl (WpL.nil (Qy (⟨j + 1, a70, c70, m + (Qp (row[j]'hlj)).length⟩ : WjX) ?_ ?_ (by ((repeat (first | exact Top.refl | refine Top.push rfl ?_)); done)) (by repeat (first | exact FrLe.nil | refine FrLe.cons rfl ?_)) ?_))
     ·exact ⟨by simp only; omega, by simp only; rw [← YY hlj, List.length_append, ← hm]⟩
     ·simp only; omega
     ·exact Take.ent' (by repeat' constructor)
    ·have hje : j = row.length := by omega
     subst hje
     rw [List.take_length] at hm ⊢
     obtain ⟨rw_, hrw⟩ : ∃ q, q = row.flatMap Qp := ⟨_, rfl⟩
     rw [← hrw] at hm ⊢
     subst hm
     have hrwl : rw_.length = W * (QZ K).toNat := by rw [hrw, flat_len row (fun p hp => hul p (hrp p hp)), hrl]
     have hrwb : ∀ x ∈ rw_, 0 ≤ x ∧ x ≤ M := fun x hx => by
      rw [hrw] at hx
      obtain ⟨p, hp, hx⟩ := List.mem_flatMap.1 hx
      exact ⟨(X5 p x hx).1, (hfit p (hrp p hp)).2.2 x hx⟩
     have hrwl2 : 1 ≤ rw_.length ∧ rw_.length ≤ 12288 := by rw [hrwl]; rcases hch with e | e <;> rw [e] <;> simp <;> omega
     have hRBl : (Zn K (Qi M) rw_).length = QD K W (Qi M) := by
      by_cases h9 : K = 4
      ·have e1 : (QZ K).toNat = 1 := by rw [h9]; rfl
       rw [show Zn K (Qi M) rw_ = packB rw_ from if_pos h9, show QD K W (Qi M) = (W + 7) / 8 from if_pos h9, packB_len, hrwl, e1, Nat.mul_one]
      ·rw [show Zn K (Qi M) rw_ = rw_.flatMap (Y8 (Qi M)) from if_neg h9, show QD K W (Qi M) = W * (QZ K).toNat * Qi M from if_neg h9, enc_len hw, hrwl]
     have hw1 : Qi M = 1 := if_neg (by omega)
     refine QL (Qb (Qb (Qa (Qj (o2 := 0) rfl rfl rfl (Qo rfl rfl (by rfl) ?_)))))
     refine QO rfl rfl rfl (WpL.nil (QA rfl hK (Wp.skip (Qb (Qb (Qa (Qd rfl rfl (QK rfl rfl (Qd rfl rfl (WpL.nil (Wp.block ?_)))))))))))
     refine Wp.loopD (σ := WjX) (fun z => z.j ≤ rw_.length ∧ z.m = ((rw_.take z.j).flatMap (Y8 (Qi M))).length) [12, 17, 82, 83, 84, 85, 86, 87, 88, 89, 90, 91, 92, 93, 94, 95, 96, 97, 98, 99, 100, 101, 102, 103, 104, 105, 106, 107] (fun z => [(82, .int .i64 (z.j : Int)), (12, .slice z.a z.m z.c)]) (fun z => [QG 5 1 z.a z.c z.m (Xn ((rw_.take z.j).flatMap (Y8 (Qi M)))), QG 3 1 aR cR rw_.length (QU (rw_)), QG 5 1 (some ⟨gO, 0, none⟩) (st * Hn) (st * Hn) (Xn (Xk K W (Qi M) px y ++ zs (st * Hn - st * y))), QB g1 [.int .i64 K, .int .i64 (W : Int), .int .i64 (Hn : Int), .int .i64 M] 98, A0]) (fun z => rw_.length - z.j) ⟨0, none, 0, 0⟩ ?_ (by repeat (first | exact FrLe.nil | refine FrLe.cons rfl ?_)) ?_ ?_
     ·exact ⟨Nat.zero_le _, rfl⟩
     ·exact Ent.own_nil (T := 5) (s := 1) (Ent.refl _)
     ·rintro ⟨k, aB, cB, mB⟩ ⟨hk, hmB⟩
      dsimp only at hk hmB ⊢
      have hmBl := enc_le (Qi M) (rw_.take k)
      rw [← hmB, List.length_take] at hmBl
      refine Qb (Qa (Q6 rfl rfl rfl (WpL.nil (Qb (Qm rfl (fun h7 => ?_) (fun h7 => ?_))))))
      ·have hlk : k < rw_.length := by omega
       have hxb := hrwb _ (List.getElem_mem hlk)
       refine Wp.skip (Qb (Wp.block ?_))
       refine Qb (Qa (Q3 k rfl rfl rfl QI (by exact Take.ent' (by repeat' constructor)) rfl (by omega) (by rw [QX]; omega) ?_))
       refine Xb rfl rfl QI (by exact Take.ent' (by repeat' constructor)) (XX rw_ hlk) ?_
       refine Qe rfl rfl (WpL.nil (Wp.block ?_))
       refine Qb (Qa (Qj (o2 := 0) rfl rfl rfl (Qo rfl rfl (by rfl) ?_)))
       refine QO rfl rfl rfl (Qe rfl rfl (WpL.nil (QA rfl hK (Qb (Qa ?_)))))
       refine Qz (vs := [_, _, _, _]) rfl rfl rfl (by rfl) ?_
       refine Qg rfl rfl (by repeat' constructor) (Yl _ _ _ _) ?_
       rintro _ _ ⟨rfl, rfl⟩
       simp only [Qr]
       refine QO rfl rfl rfl (Qe rfl rfl (WpL.nil (QN rfl (by omega) ?_)))
       refine Qa (Qd rfl rfl (Qd rfl rfl (Ya rfl Tryz.underlying3 rfl (w_u8 (by omega) (by omega)) ?_)))
       refine Y4 rfl rfl rfl rfl ?_
       intro g3
       refine X9 rfl rfl rfl (by repeat' constructor) (by rfl) (by rfl) (by rfl) (by rfl) (by omega) (by omega) ?_
       intro aN cN
       rw [u8s_snoc, show [rw_[k]'hlk] = Y8 (Qi M) (rw_[k]'hlk) from by rw [hw1, encS1], enc_snoc hlk]
       refine Qe rfl rfl (WpL.nil (Qa (QE rfl rfl rfl (Qt (by omega) (by omega)) ?_)))
       refine Qd rfl rfl (WpL.nil (Qy (⟨k + 1, aN, cN, mB + 1⟩ : WjX) ?_ ?_ (by ((repeat (first | exact Top.refl | refine Top.push rfl ?_)); done)) (by repeat (first | exact FrLe.nil | refine FrLe.cons rfl ?_)) ?_))
       ·exact ⟨by simp only; omega, by simp only; rw [← enc_snoc hlk, List.length_append, ← hmB, hw1, encS1]; rfl⟩
       ·simp only; omega
       ·exact Ent.refl _
      ·have hke : k = rw_.length := by omega
       subst hke
       rw [List.take_length] at hmB ⊢
       have hRB : Zn K (Qi M) rw_ = rw_.flatMap (Y8 (Qi M)) := if_neg hK
       rw [← hRB] at hmB ⊢
       have hmst : mB = st := hmB.trans (hRBl.trans hstd.symm)
       rw [hmst]
       refine QL (Qa (Qd rfl rfl (Qd rfl rfl ?_)))
       refine Qz (vs := [_, _, _, _]) rfl rfl rfl (by rfl) ?_
       refine Qg rfl rfl (by repeat' constructor) (Zb _ _ _ _ hR) ?_
       rintro _ _ ⟨rfl, rfl⟩
       simp only [Qr]
       rw [← hstd]
       refine Xz rfl rfl rfl (Qt (by omega) (by omega)) ?_
       rw [hyst]
       refine s_sll_l (L := st * y) rfl rfl rfl rfl (by omega) ?_
       refine Qd rfl rfl (s_copyo rfl rfl rfl (by repeat' constructor) (by omega) (by omega) (by omega) (u8s_one _) ?_)
       rw [row_putU (by rw [hstd]; exact Ym hw hpl hul y hy) (hRBl.trans hstd.symm) hyN, show Zn K (Qi M) rw_ = Zn K (Qi M) (((px.drop (y * W)).take W).flatMap Qp) from by rw [hrw, hrow], ← ZE]
       refine WpL.nil (Qa (QE rfl rfl rfl (Qt (by omega) (by omega)) ?_))
       refine Qd rfl rfl (WpL.nil (Qy (⟨y + 1⟩ : WyX) ?_ ?_ (by ((repeat (first | exact Top.refl | refine Top.push rfl ?_)); done)) (by repeat (first | exact FrLe.nil | refine FrLe.cons rfl ?_)) ?_))
       ·simp only; omega
       ·simp only; omega
       ·exact Take.ent' (by repeat' constructor)
  ·have hye : y = Hn := by omega
   have hwl := Ym (K := K) (w := Qi M) hw hpl hul Hn (Nat.le_refl _)
   rw [← hstd] at hwl
   rw [hye, show zs (st * Hn - st * Hn) = [] from by rw [Nat.sub_self]; rfl, List.append_nil, ← hwl]
   refine QL (Qb (Qa (Qd rfl rfl (Qe rfl rfl (Qe rfl rfl (WpL.nil (Qh ?_)))))))
   apply RetQ.mk
   ·exact (QF rfl rfl rfl)
   ·exact ⟨_, _, rfl, Nat.le_refl _, rfl⟩
   ·exact Take.ent' (by repeat' constructor)

set_option maxHeartbeats 2000000 in
theorem RawWrite_c (A0 : HP) (a0 : Option Addr) (c0 : Nat) (px : List Int) (hA : RdsL [A0] a0 (Q5 px)) (hr : ∀ p ∈ px, 0 ≤ p ∧ p < 18446744073709551616) (hc : px.length ≤ c0) (K : Int) (W Hn : Nat) (M : Int) (hR : RawH K (W : Int) (Hn : Int) M) (hpl : px.length = W * Hn) (hfit : ∀ p ∈ px, X1 p (QZ K) M) (hK : K ≠ 4) (hM : ¬ M ≤ 255) : Fn Tryz.prog 91 #[.slice a0 px.length c0, .agg #[.int .i64 K, .int .i64 (W : Int), .int .i64 (Hn : Int), .int .i64 M]] [A0] (fun v l => ∃ a c, v = .tuple #[.slice a (Xk K W (Qi M) px Hn).length c, .int .i64 0] ∧ (Xk K W (Qi M) px Hn).length ≤ c ∧ l = [QG 5 1 a c (Xk K W (Qi M) px Hn).length (Xn (Xk K W (Qi M) px Hn)), A0]) := by
 have hb := hR.bd
 have hch := Ye K
 have hw := Q4 M
 have hsb := XZ (K := K) (W := W) hw (by omega) (by omega)
 have hWH : W * Hn ≤ 4096 * 65536 := Nat.mul_le_mul (by omega) (by omega)
 have hWHi : (W : Int) * (Hn : Int) = ((W * Hn : Nat) : Int) := by push_cast; rfl
 obtain ⟨st, hstd⟩ : ∃ st, st = QD K W (Qi M) := ⟨_, rfl⟩
 rw [← hstd] at hsb
 have hN : st * Hn ≤ 24576 * 65536 := Nat.mul_le_mul (by omega) (by omega)
 have hul : ∀ p ∈ px, (Qp p).length = (QZ K).toNat := fun p hp => by have := can_fit (hfit p hp); omega
 refine Qk (vs := [.slice a0 px.length c0, .agg #[.int .i64 K, .int .i64 (W : Int), .int .i64 (Hn : Int), .int .i64 M]]) Tryz.func91 rfl Tryz.ntmps91 rfl (Qb (Qa (QP rfl rfl rfl ?_)))
 intro g1
 refine Qe rfl rfl (Qe rfl rfl (WpL.nil (Qb (Qa ?_))))
 refine Qz (vs := [_, _, _, _]) rfl rfl rfl (by rfl) ?_
 refine Qg rfl rfl (by repeat' constructor) (Xo _ _ _ _ (by omega)) ?_
 rintro _ _ ⟨rfl, rfl⟩
 simp only [Qr]
 rw [show (if K % 3 = 0 then (3 : Int) else 1) = QZ K from rfl]
 refine XK rfl ?_
 intro gF
 refine QY rfl rfl rfl (by rfl) rfl ?_
 refine WpL.nil (Qb (Qa (s_mkf rfl (fun a hh => XO hh _ _ rfl) ?_)))
 refine Qe rfl rfl (WpL.nil (Qb (Qb (Qa ?_))))
 refine Qz (vs := [_, _, _, _]) rfl rfl rfl (by rfl) ?_
 refine Qg rfl rfl (by repeat' constructor) (Za _ _ _ _ hR) ?_
 rintro _ _ ⟨gR, gB, b0, hb0, hb0z, rfl, rfl⟩
 simp only [Qr]
 refine Qd rfl rfl (QC rfl rfl rfl (QC rfl rfl rfl (Qe rfl rfl (Qe rfl rfl (WpL.nil (Qb (Qa (Qd rfl rfl (Xj rfl rfl rfl (Qd rfl rfl (Qu (dj := 28) rfl (by decide) ?_)))))))))))
 refine Qf rfl rfl (Qd rfl rfl (Qf rfl rfl (QK rfl rfl (Qf rfl rfl (Qj (o2 := 1) rfl rfl rfl (Qf rfl rfl (Qo rfl rfl (by rfl) ?_)))))))
 refine Qf rfl rfl (Qj (o2 := 2) rfl rfl rfl (Qf rfl rfl (Qo rfl rfl (by rfl) ?_)))
 refine Qf rfl rfl (Xz rfl rfl rfl (Qt (by omega) (by omega)) ?_)
 rw [hWHi]
 refine Qf rfl rfl (Xj rfl rfl rfl (Qq rfl rfl rfl (Qd rfl rfl (Qu (dj := 38) rfl (decide_eq_false (fun h => h (by omega))) ?_))))
 refine Qf rfl rfl (Qd rfl rfl (Qf rfl rfl (Qd rfl rfl (Qf rfl rfl (Qg rfl rfl (by repeat' constructor) (Yo A0 a0 c0 px hA hr (by omega) gF (QZ K) M) ?_)))))
 rintro _ _ ⟨rfl, rfl⟩
 simp only [Qr]
 refine Qq rfl rfl rfl (WpL.nil (QA rfl (fun h => h hfit) ?_))
 refine Wp.skip (Qb (Qa ?_))
 refine Qz (vs := [_, _, _, _]) rfl rfl rfl (by rfl) ?_
 refine Qg rfl rfl (by repeat' constructor) (Size_spec _ _ _ _ hR) ?_
 rintro _ _ ⟨rfl, rfl⟩
 simp only [Qr]
 rw [← hstd]
 refine s_mko (st * Hn) rfl rfl rfl (by omega) (by omega) rfl ?_
 intro gO
 rw [u8s_zero, show List.replicate (st * Hn) (0 : Int) = Xk K W (Qi M) px 0 ++ zs (st * Hn - st * 0) from rfl]
 refine Qe rfl rfl (WpL.nil (Qb (Qb (Qa (Qj (o2 := 2) rfl rfl rfl (Qo rfl rfl (by rfl) ?_))))))
 refine Qd rfl rfl (WpL.nil (Wp.block ?_))
 refine Wp.loopD (σ := WyX) (fun x => x.y ≤ Hn) [11, 12, 13, 15, 17, 48, 49, 50, 51, 52, 53, 54, 55, 56, 57, 58, 59, 60, 61, 62, 63, 64, 65, 66, 67, 68, 69, 70, 71, 72, 73, 74, 75, 76, 77, 78, 79, 80, 81, 82, 83, 84, 85, 86, 87, 88, 89, 90, 91, 92, 93, 94, 95, 96, 97, 98, 99, 100, 101, 102, 103, 104, 105, 106, 107, 108, 109, 110, 111, 112, 113, 114, 115, 116] (fun x => [(48, .int .i64 (x.y : Int))]) (fun x => [QG 5 1 (some ⟨gO, 0, none⟩) (st * Hn) (st * Hn) (Xn (Xk K W (Qi M) px x.y ++ zs (st * Hn - st * x.y))), QB g1 [.int .i64 K, .int .i64 (W : Int), .int .i64 (Hn : Int), .int .i64 M] 98, A0]) (fun x => Hn - x.y) ⟨0⟩ ?_ (by repeat (first | exact FrLe.nil | refine FrLe.cons rfl ?_)) ?_ ?_
 ·exact Nat.zero_le _
 ·exact Take.ent' (by repeat' constructor)
 ·rintro ⟨y⟩ hy
  dsimp only at hy ⊢
  refine Qb (Qa (Q6 rfl rfl rfl (WpL.nil (Qb (Qm rfl (fun h2 => ?_) (fun h2 => ?_))))))
  ·have hlt : y < Hn := by omega
   have hkW : (y + 1) * W = y * W + W := by rw [Nat.add_mul, Nat.one_mul]
   have hkW2 : (y + 1) * W ≤ Hn * W := Nat.mul_le_mul_right _ hlt
   rw [Nat.mul_comm Hn W] at hkW2
   have ei1 : (y : Int) * (W : Int) = ((y * W : Nat) : Int) := by push_cast; rfl
   have ei2 : ((y : Int) + 1) * (W : Int) = (((y + 1) * W : Nat) : Int) := by push_cast; rfl
   have hyN : st * (y + 1) ≤ st * Hn := Nat.mul_le_mul_left _ hlt
   have hyS : st * (y + 1) = st * y + st := by rw [Nat.mul_add, Nat.mul_one]
   have hyst : (y : Int) * (st : Int) = ((st * y : Nat) : Int) := by push_cast; rw [Int.mul_comm]
   refine Wp.skip (Qb (Wp.block ?_))
   refine Qb (Qa (Qd rfl rfl (Qe rfl rfl (WpL.nil (Qb (Qa (Qe rfl rfl (WpL.nil (Qb (Qa (Qe rfl rfl (WpL.nil ?_))))))))))))
   refine Qb (Qb (Qa (Qd rfl rfl (Qd rfl rfl (Qj (o2 := 1) rfl rfl rfl (Qo rfl rfl (by rfl) ?_))))))
   refine Xz rfl rfl rfl (Qt (by omega) (by omega)) ?_
   rw [ei1]
   refine Qd rfl rfl (QE rfl rfl rfl (Qt (by omega) (by omega)) ?_)
   refine Qj (o2 := 1) rfl rfl rfl (Qo rfl rfl (by rfl) ?_)
   refine Xz rfl rfl rfl (Qt (by omega) (by omega)) ?_
   rw [ei2]
   refine s_sll_lh (L := y * W) (H := (y + 1) * W) rfl rfl rfl rfl rfl rfl (by omega) (by omega) ?_
   refine QK rfl rfl (Qd rfl rfl (WpL.nil (Wp.block ?_)))
   have hRw := hA.sla (y * W) ((y + 1) * W) c0 1 (by omega)
   rw [pxs_sub] at hRw
   rw [show (y + 1) * W - y * W = W by omega] at hRw ⊢
   obtain ⟨row, hrow⟩ : ∃ row, row = (px.drop (y * W)).take W := ⟨_, rfl⟩
   have hrl : row.length = W := by rw [hrow, List.length_take, List.length_drop]; omega
   have hrp : ∀ p ∈ row, p ∈ px := fun p hp => by rw [hrow] at hp; exact List.mem_of_mem_drop (List.mem_of_mem_take hp)
   rw [← hrow] at hRw
   refine Wp.loopD (σ := WjX) (fun z => z.j ≤ W ∧ z.m = ((row.take z.j).flatMap Qp).length) [13, 15, 63, 64, 65, 66, 67, 68, 69, 70, 71] (fun z => [(63, .int .i64 (z.j : Int)), (13, .slice z.a z.m z.c)]) (fun z => [QG 3 1 z.a z.c z.m (QU ((row.take z.j).flatMap Qp)), QG 5 1 (some ⟨gO, 0, none⟩) (st * Hn) (st * Hn) (Xn (Xk K W (Qi M) px y ++ zs (st * Hn - st * y))), QB g1 [.int .i64 K, .int .i64 (W : Int), .int .i64 (Hn : Int), .int .i64 M] 98, A0]) (fun z => W - z.j) ⟨0, none, 0, 0⟩ ?_ (by repeat (first | exact FrLe.nil | refine FrLe.cons rfl ?_)) ?_ ?_
   ·exact ⟨Nat.zero_le _, rfl⟩
   ·exact Ent.own_nil (T := 3) (s := 1) (Ent.refl _)
   ·rintro ⟨j, aR, cR, m⟩ ⟨hj, hm⟩
    dsimp only at hj hm ⊢
    have hml := flat_le (row.take j)
    rw [← hm, List.length_take] at hml
    refine Qb (Qa (Q6 rfl rfl rfl (WpL.nil (Qb (Qm rfl (fun h4 => ?_) (fun h4 => ?_))))))
    ·have hlj : j < row.length := by omega
     have hpp := hrp _ (List.getElem_mem hlj)
     have hpb := hr _ hpp
     have hun := hul _ hpp
     have hul3 := Xs (row[j]'hlj)
     refine Wp.skip (Qb (Wp.block ?_))
     refine Qb (Qa (Q3 j rfl rfl rfl hRw (by exact Take.ent' (by repeat' constructor)) rfl (by omega) (by rw [Xt]; omega) ?_))
     refine Xb rfl rfl hRw (by exact Take.ent' (by repeat' constructor)) (Yg row hlj) ?_
     refine Qe rfl rfl (WpL.nil (Qa (Qd rfl rfl (Qd rfl rfl (Qg rfl rfl (by repeat' constructor) (XI _ hpb.1 hpb.2) ?_)))))
     rintro _ _ ⟨A1, a1, c1, rfl, rfl, hA1, hn1⟩
     simp only [Qr]
     refine s_appr rfl rfl rfl (by repeat' constructor) hA1 (by exact Take.ent' (by repeat' constructor)) (ints_ne (fun e => by rw [e] at hun; simp at hun; omega)) (by rw [QX, Nat.mul_one]) (by rfl) (by rfl) (ints_one _) (by omega) (by omega) ?_
     intro a70 c70
     rw [ints_app, YY hlj]
     refine Qe rfl rfl (WpL.nil (Qa (QE rfl rfl rfl (Qt (by omega) (by omega)) ?_)))
     refine Qd rfl rfl (WpL.nil (Qy (⟨j + 1, a70, c70, m + (Qp (row[j]'hlj)).length⟩ : WjX) ?_ ?_ (by ((repeat (first | exact Top.refl | refine Top.push rfl ?_)); done)) (by repeat (first | exact FrLe.nil | refine FrLe.cons rfl ?_)) ?_))
     ·exact ⟨by simp only; omega, by simp only; rw [← YY hlj, List.length_append, ← hm]⟩
     ·simp only; omega
     ·exact Take.ent' (by repeat' constructor)
    ·have hje : j = row.length := by omega
     subst hje
     rw [List.take_length] at hm ⊢
     obtain ⟨rw_, hrw⟩ : ∃ q, q = row.flatMap Qp := ⟨_, rfl⟩
     rw [← hrw] at hm ⊢
     subst hm
     have hrwl : rw_.length = W * (QZ K).toNat := by rw [hrw, flat_len row (fun p hp => hul p (hrp p hp)), hrl]
     have hrwb : ∀ x ∈ rw_, 0 ≤ x ∧ x ≤ M := fun x hx => by
      rw [hrw] at hx
      obtain ⟨p, hp, hx⟩ := List.mem_flatMap.1 hx
      exact ⟨(X5 p x hx).1, (hfit p (hrp p hp)).2.2 x hx⟩
     have hrwl2 : 1 ≤ rw_.length ∧ rw_.length ≤ 12288 := by rw [hrwl]; rcases hch with e | e <;> rw [e] <;> simp <;> omega
     have hRBl : (Zn K (Qi M) rw_).length = QD K W (Qi M) := by
      by_cases h9 : K = 4
      ·have e1 : (QZ K).toNat = 1 := by rw [h9]; rfl
       rw [show Zn K (Qi M) rw_ = packB rw_ from if_pos h9, show QD K W (Qi M) = (W + 7) / 8 from if_pos h9, packB_len, hrwl, e1, Nat.mul_one]
      ·rw [show Zn K (Qi M) rw_ = rw_.flatMap (Y8 (Qi M)) from if_neg h9, show QD K W (Qi M) = W * (QZ K).toNat * Qi M from if_neg h9, enc_len hw, hrwl]
     have hw2 : Qi M = 2 := if_pos (by omega)
     refine QL (Qb (Qb (Qa (Qj (o2 := 0) rfl rfl rfl (Qo rfl rfl (by rfl) ?_)))))
     refine QO rfl rfl rfl (WpL.nil (QA rfl hK (Wp.skip (Qb (Qb (Qa (Qd rfl rfl (QK rfl rfl (Qd rfl rfl (WpL.nil (Wp.block ?_)))))))))))
     refine Wp.loopD (σ := WjX) (fun z => z.j ≤ rw_.length ∧ z.m = ((rw_.take z.j).flatMap (Y8 (Qi M))).length) [12, 17, 82, 83, 84, 85, 86, 87, 88, 89, 90, 91, 92, 93, 94, 95, 96, 97, 98, 99, 100, 101, 102, 103, 104, 105, 106, 107] (fun z => [(82, .int .i64 (z.j : Int)), (12, .slice z.a z.m z.c)]) (fun z => [QG 5 1 z.a z.c z.m (Xn ((rw_.take z.j).flatMap (Y8 (Qi M)))), QG 3 1 aR cR rw_.length (QU (rw_)), QG 5 1 (some ⟨gO, 0, none⟩) (st * Hn) (st * Hn) (Xn (Xk K W (Qi M) px y ++ zs (st * Hn - st * y))), QB g1 [.int .i64 K, .int .i64 (W : Int), .int .i64 (Hn : Int), .int .i64 M] 98, A0]) (fun z => rw_.length - z.j) ⟨0, none, 0, 0⟩ ?_ (by repeat (first | exact FrLe.nil | refine FrLe.cons rfl ?_)) ?_ ?_
     ·exact ⟨Nat.zero_le _, rfl⟩
     ·exact Ent.own_nil (T := 5) (s := 1) (Ent.refl _)
     ·rintro ⟨k, aB, cB, mB⟩ ⟨hk, hmB⟩
      dsimp only at hk hmB ⊢
      have hmBl := enc_le (Qi M) (rw_.take k)
      rw [← hmB, List.length_take] at hmBl
      refine Qb (Qa (Q6 rfl rfl rfl (WpL.nil (Qb (Qm rfl (fun h7 => ?_) (fun h7 => ?_))))))
      ·have hlk : k < rw_.length := by omega
       have hxb := hrwb _ (List.getElem_mem hlk)
       refine Wp.skip (Qb (Wp.block ?_))
       refine Qb (Qa (Q3 k rfl rfl rfl QI (by exact Take.ent' (by repeat' constructor)) rfl (by omega) (by rw [QX]; omega) ?_))
       refine Xb rfl rfl QI (by exact Take.ent' (by repeat' constructor)) (XX rw_ hlk) ?_
       refine Qe rfl rfl (WpL.nil (Wp.block ?_))
       refine Qb (Qa (Qj (o2 := 0) rfl rfl rfl (Qo rfl rfl (by rfl) ?_)))
       refine QO rfl rfl rfl (Qe rfl rfl (WpL.nil (QA rfl hK (Qb (Qa ?_)))))
       refine Qz (vs := [_, _, _, _]) rfl rfl rfl (by rfl) ?_
       refine Qg rfl rfl (by repeat' constructor) (Yl _ _ _ _) ?_
       rintro _ _ ⟨rfl, rfl⟩
       simp only [Qr]
       refine QO rfl rfl rfl (Qe rfl rfl (WpL.nil (QA rfl (by omega) ?_)))
       refine Qa (Qd rfl rfl (Qd rfl rfl (s_shr 256 rfl rfl rfl (by decide) (by decide) (Ya rfl Tryz.underlying3 rfl (w_u8 (by omega) (by omega)) ?_))))
       refine Qd rfl rfl (s_cviw rfl Tryz.underlying3 rfl ?_)
       rw [wrap_u8]
       refine s_bs2 rfl rfl rfl rfl rfl rfl ?_
       intro g3
       refine X9 rfl rfl rfl (by repeat' constructor) (by rfl) (by rfl) (by rfl) (by rfl) (by omega) (by omega) ?_
       intro aN cN
       rw [show ([.int .u8 (rw_[k]'hlk / 256), .int .u8 (rw_[k]'hlk % 256)] : List Value) = Xn (Y8 (Qi M) (rw_[k]'hlk)) from by rw [hw2]; rfl, show ∀ xs ys : List Int, Xn xs ++ Xn ys = Xn (xs ++ ys) from fun xs ys => by simp [Xn], enc_snoc hlk]
       refine Qe rfl rfl (WpL.nil (Qa (QE rfl rfl rfl (Qt (by omega) (by omega)) ?_)))
       refine Qd rfl rfl (WpL.nil (Qy (⟨k + 1, aN, cN, mB + 2⟩ : WjX) ?_ ?_ (by ((repeat (first | exact Top.refl | refine Top.push rfl ?_)); done)) (by repeat (first | exact FrLe.nil | refine FrLe.cons rfl ?_)) ?_))
       ·exact ⟨by simp only; omega, by simp only; rw [← enc_snoc hlk, List.length_append, ← hmB, hw2, encS2]; rfl⟩
       ·simp only; omega
       ·exact Ent.refl _
      ·have hke : k = rw_.length := by omega
       subst hke
       rw [List.take_length] at hmB ⊢
       have hRB : Zn K (Qi M) rw_ = rw_.flatMap (Y8 (Qi M)) := if_neg hK
       rw [← hRB] at hmB ⊢
       have hmst : mB = st := hmB.trans (hRBl.trans hstd.symm)
       rw [hmst]
       refine QL (Qa (Qd rfl rfl (Qd rfl rfl ?_)))
       refine Qz (vs := [_, _, _, _]) rfl rfl rfl (by rfl) ?_
       refine Qg rfl rfl (by repeat' constructor) (Zb _ _ _ _ hR) ?_
       rintro _ _ ⟨rfl, rfl⟩
       simp only [Qr]
       rw [← hstd]
       refine Xz rfl rfl rfl (Qt (by omega) (by omega)) ?_
       rw [hyst]
       refine s_sll_l (L := st * y) rfl rfl rfl rfl (by omega) ?_
       refine Qd rfl rfl (s_copyo rfl rfl rfl (by repeat' constructor) (by omega) (by omega) (by omega) (u8s_one _) ?_)
       rw [row_putU (by rw [hstd]; exact Ym hw hpl hul y hy) (hRBl.trans hstd.symm) hyN, show Zn K (Qi M) rw_ = Zn K (Qi M) (((px.drop (y * W)).take W).flatMap Qp) from by rw [hrw, hrow], ← ZE]
       refine WpL.nil (Qa (QE rfl rfl rfl (Qt (by omega) (by omega)) ?_))
       refine Qd rfl rfl (WpL.nil (Qy (⟨y + 1⟩ : WyX) ?_ ?_ (by ((repeat (first | exact Top.refl | refine Top.push rfl ?_)); done)) (by repeat (first | exact FrLe.nil | refine FrLe.cons rfl ?_)) ?_))
       ·simp only; omega
       ·simp only; omega
       ·exact Take.ent' (by repeat' constructor)
  ·have hye : y = Hn := by omega
   have hwl := Ym (K := K) (w := Qi M) hw hpl hul Hn (Nat.le_refl _)
   rw [← hstd] at hwl
   rw [hye, show zs (st * Hn - st * Hn) = [] from by rw [Nat.sub_self]; rfl, List.append_nil, ← hwl]
   refine QL (Qb (Qa (Qd rfl rfl (Qe rfl rfl (Qe rfl rfl (WpL.nil (Qh ?_)))))))
   apply RetQ.mk
   ·exact (QF rfl rfl rfl)
   ·exact ⟨_, _, rfl, Nat.le_refl _, rfl⟩
   ·exact Take.ent' (by repeat' constructor)

end Go.Proofs.YtggamdlpiejbiaaGreat
namespace Go.Proofs.YtggamdlpiejbiaaGreat
open Go.RowKit Go.Shelf


theorem RawWrite_spec (A0 : HP) (a0 : Option Addr) (c0 : Nat) (px : List Int) (hA : RdsL [A0] a0 (Q5 px)) (hr : ∀ p ∈ px, 0 ≤ p ∧ p < 18446744073709551616) (hc : px.length ≤ c0) (K : Int) (W Hn : Nat) (M : Int) (hR : RawH K (W : Int) (Hn : Int) M) (hpl : px.length = W * Hn) (hfit : ∀ p ∈ px, X1 p (QZ K) M) : Fn Tryz.prog 91 #[.slice a0 px.length c0, .agg #[.int .i64 K, .int .i64 (W : Int), .int .i64 (Hn : Int), .int .i64 M]] [A0] (fun v l => ∃ a c, v = .tuple #[.slice a (Xk K W (Qi M) px Hn).length c, .int .i64 0] ∧ (Xk K W (Qi M) px Hn).length ≤ c ∧ l = [QG 5 1 a c (Xk K W (Qi M) px Hn).length (Xn (Xk K W (Qi M) px Hn)), A0]) := by
  by_cases h4 : K = 4
  · exact RawWrite_a A0 a0 c0 px hA hr hc K W Hn M hR hpl hfit h4
  · by_cases hM : M ≤ 255
    · exact RawWrite_b A0 a0 c0 px hA hr hc K W Hn M hR hpl hfit h4 hM
    · exact RawWrite_c A0 a0 c0 px hA hr hc K W Hn M hR hpl hfit h4 hM
end Go.Proofs.YtggamdlpiejbiaaGreat
namespace Go.Proofs.YtggamdlpiejbiaaGreat
open Go.RowKit Go.Shelf

/-- What is told of a head's reader at the end. -/
def hdFin (r : HS × Int) (len : Int) : (Int × Int × Int × Int) × Int × Int :=
  if r.1.last = 1 then ((r.1.K, r.1.W, r.1.H, r.1.M), r.2, 0) else if r.1.last = 2 then ((0, 0, 0, 0), r.2, r.1.e) else ((0, 0, 0, 0), len, 6)
theorem hdP_fin (l0 l1 l2 : Int) (bs : List Int) : XV l0 l1 l2 bs = hdFin (XE l0 l1 l2 hd0 bs 0) bs.length := rfl
structure Evt where
  (k c m w h : Int) (row : List Int)
inductive Bd | no | pl (s : RS) | rw (s : RW)
structure PS where
  (hd : Option HS) (ph : Int) (bd : Bd) (told imgs : Int) (over : Bool) (e : Int)
def rowE (row : List Int) : List Evt := if row = [] then [] else [⟨2, 0, 0, 0, 0, row⟩]
def doneE (st : Int) : List Evt := if st = 1 then [⟨3, 0, 0, 0, 0, []⟩] else []
/-- What a raster's reader told, made events. -/
def Yw (s : PS) (bd : Bd) (st e : Int) (row : List Int) : PS × List Evt :=
  (if st = 2 then { s with bd := bd, e := e } else if st = 1 then { s with bd := .no, ph := 0, imgs := s.imgs + 1 } else { s with bd := bd }, rowE row ++ doneE st)
def rw0 (h : HS) : RW := ⟨List.replicate (QD h.K h.W.toNat (Qi h.M)) 0, 0, 0, 0, 0⟩
def bd0 (h : HS) : Bd := if 4 ≤ h.K ∧ h.K ≤ 6 then .rw (rw0 h) else .pl s0R
def Zg (s : PS) (h : HS) : PS × List Evt :=
  if h.last = 0 then ({ s with hd := some h, ph := 1 }, []) else
  if h.e ≠ 0 then ({ s with hd := some h, ph := 1, e := h.e }, []) else
  ({ s with hd := some h, ph := 2, bd := bd0 h }, [⟨1, QZ h.K, h.M, h.W, h.H, []⟩])
def psBody (s : PS) (h : HS) (c : Int) : PS × List Evt :=
  match s.bd with
  | .no => (s, [])
  | .pl r => Yw s (.pl (YO h.K h.W h.H h.M r c).1) (YO h.K h.W h.H h.M r c).1.last (YO h.K h.W h.H h.M r c).1.e (YO h.K h.W h.H h.M r c).2
  | .rw r => Yw s (.rw (Xm h.K h.W.toNat h.H h.M r c).1) (Xm h.K h.W.toNat h.H h.M r c).1.last (Xm h.K h.W.toNat h.H h.M r c).1.e (Xm h.K h.W.toNat h.H h.M r c).2
/-- A byte. -/
def psStep (l0 l1 l2 : Int) (s : PS) (c : Int) : PS × List Evt :=
  if s.ph = 0 then (if XW c = true then (s, []) else Zg s (XA l0 l1 l2 hd0 c)) else
  if s.ph = 1 then Zg s (XA l0 l1 l2 (s.hd.getD hd0) c) else psBody s (s.hd.getD hd0) c
def Yx (l0 l1 l2 : Int) (s : PS) (c : Int) : PS × List Evt :=
  if s.over = true ∨ s.e ≠ 0 then (s, []) else psStep l0 l1 l2 { s with told := s.told + 1 } c
/-- The end. -/
def psEnd (s : PS) : PS × List Evt :=
  if s.over = true ∨ s.e ≠ 0 then (s, []) else
  match s.bd with
  | .pl r => Yw { s with over := true } (.pl (endR (s.hd.getD hd0).K (s.hd.getD hd0).W (s.hd.getD hd0).H r).1) (endR (s.hd.getD hd0).K (s.hd.getD hd0).W (s.hd.getD hd0).H r).1.last (endR (s.hd.getD hd0).K (s.hd.getD hd0).W (s.hd.getD hd0).H r).1.e (endR (s.hd.getD hd0).K (s.hd.getD hd0).W (s.hd.getD hd0).H r).2
  | .rw _ => ({ s with over := true, e := 6 }, [])
  | .no => if s.hd.isSome = true ∧ (s.hd.getD hd0).e = 9 then ({ s with over := true, e := 6 }, []) else ({ s with over := true }, [])
def hdJ (l0 l1 l2 : Int) (h : HS) : Prop := hdI h ∧ h.e = 9 ∧ (2 ≤ h.at_ → 1 ≤ h.K ∧ h.K ≤ 6) ∧ (1 ≤ h.i → 1 ≤ h.W ∧ h.W ≤ l0) ∧ (2 ≤ h.i → 1 ≤ h.H ∧ h.H ≤ l1 ∧ ¬ Zc h.K) ∧ (h.at_ = 3 → YW (X0 l0 l1 l2 h.i) h.t)
theorem hdJ0 (l0 l1 l2 : Int) : hdJ l0 l1 l2 hd0 := by unfold hdJ hdI hd0; simp
structure LimO (l0 l1 l2 : Int) : Prop where
  a : 1 ≤ l0 ∧ l0 ≤ 4096
  b : 1 ≤ l1 ∧ l1 ≤ 65536
  c : 1 ≤ l2 ∧ l2 ≤ 65535
def Zz (h : HS) : Prop := h.last = 1 ∧ h.e = 0 ∧ X6 h.K h.W h.H h.M
def HdBad (h : HS) : Prop := h.last = 2 ∧ 2 ≤ h.e ∧ h.e ≤ 4
theorem hdMagic_ok {l0 l1 l2 : Int} {h : HS} {c : Int} (hL : LimO l0 l1 l2) (hj : hdJ l0 l1 l2 h) (h3 : h.at_ < 3) : hdJ l0 l1 l2 (XJ l0 h c) ∨ HdBad (XJ l0 h c) := by
  obtain ⟨K, W, H, M, at_, i, t, last, e⟩ := h
  obtain ⟨⟨j1, j2, j3, j4, j5, j6⟩, j7, j8, j9, j10, j11⟩ := hj
  dsimp only at *
  have hi := j6 h3
  subst hi
  subst j1
  subst j7
  unfold XJ
  dsimp only
  split
  · exact .inr ⟨rfl, (by dsimp only; omega), (by dsimp only; omega)⟩
  · rename_i q1
    split
    · refine .inl ⟨⟨rfl, ?_, ?_, ?_, ?_, ?_⟩, rfl, ?_, ?_, ?_, ?_⟩ <;> dsimp only <;> omega
    · split
      · split
        · exact .inr ⟨rfl, (by dsimp only; omega), (by dsimp only; omega)⟩
        · rename_i q2 q3
          have hc : XW c = true ∨ c = 35 := by
            by_cases hc : c = 35
            · exact .inr hc
            · left; cases hb : XW c with
              | true => rfl
              | false => exact absurd ⟨hb, hc⟩ q3
          have := tk0_soft (l0 := l0) hL.a.1 hc
          refine .inl ⟨⟨rfl, ?_, ?_, ?_, ?_, ?_⟩, rfl, ?_, ?_, ?_, ?_⟩ <;> dsimp only
          all_goals first | omega | exact fun _ => this.2
      · refine .inl ⟨⟨rfl, ?_, ?_, ?_, ?_, ?_⟩, rfl, ?_, ?_, ?_, ?_⟩ <;> dsimp only <;> omega
theorem hdNum_ok {l0 l1 l2 : Int} {h : HS} {c : Int} (hL : LimO l0 l1 l2) (hj : hdJ l0 l1 l2 h) (h3 : h.at_ = 3) : hdJ l0 l1 l2 (Xq l0 l1 l2 h c) ∨ HdBad (Xq l0 l1 l2 h c) ∨ Zz (Xq l0 l1 l2 h c) := by
  obtain ⟨K, W, H, M, at_, i, t, last, e⟩ := h
  obtain ⟨⟨j1, j2, j3, j4, j5, j6⟩, j7, j8, j9, j10, j11⟩ := hj
  dsimp only at *
  subst h3
  subst j1
  subst j7
  obtain ⟨a1, a2⟩ := hL.a
  obtain ⟨b1, b2⟩ := hL.b
  obtain ⟨d1, d2⟩ := hL.c
  have h8 := j8 (by decide)
  have hok := j11 rfl
  have hcs := tkPut_cases (c := c) hok
  unfold Xq
  dsimp only
  generalize hq : QR (X0 l0 l1 l2 i) t c = q at hcs
  obtain ⟨t', k⟩ := q
  dsimp only at hcs ⊢
  rcases hcs with ⟨rfl, h1⟩ | ⟨rfl, h1, h2, h4, h5⟩ | ⟨rfl, h1, h2, h4⟩
  · rw [if_pos rfl]
    exact .inl ⟨⟨rfl, j2, j3, j4, j5, j6⟩, rfl, j8, j9, j10, fun _ => h1⟩
  · rw [if_neg (by decide), if_neg (by decide)]
    by_cases hn : t'.n = 0
    · rw [if_pos hn]; exact .inr (.inl ⟨rfl, (by dsimp only; omega), (by dsimp only; omega)⟩)
    · rw [if_neg hn]
      have h0 : ∀ m, 1 ≤ m → YW m tk0 := fun m hm => by unfold YW tk0; dsimp only; omega
      obtain rfl | rfl | rfl : i = 0 ∨ i = 1 ∨ i = 2 := by omega
      · have hl : X0 l0 l1 l2 0 = l0 := rfl
        rw [hl] at h5
        simp only [Y2, Yf, if_pos, show ¬ ((0 : Int) + 1 = 2 ∧ Zc K) from fun h => absurd h.1 (by decide), if_false, show (0 : Int) + 1 < 3 from by decide]
        exact .inl ⟨⟨rfl, j2, j3, (by dsimp only; omega), (by dsimp only; omega), fun h => absurd h (by dsimp only; omega)⟩, rfl, j8, fun _ => ⟨by dsimp only; omega, h5⟩, fun h => absurd h (by dsimp only; omega), fun _ => h0 _ b1⟩
      · have hl : X0 l0 l1 l2 1 = l1 := rfl
        rw [hl] at h5
        have h9 := j9 (by decide)
        by_cases hb : Zc K
        · simp only [Y2, Yf, show ¬ ((1 : Int) = 0) from by decide, if_false, if_true, show ((1 : Int) + 1 = 2 ∧ Zc K) from ⟨by decide, hb⟩, show ¬ (3 : Int) < 3 from by decide, and_self]
          refine .inr (.inr ⟨rfl, rfl, ?_⟩)
          unfold X6; dsimp only; omega
        · simp only [Y2, Yf, show ¬ ((1 : Int) = 0) from by decide, if_false, if_true, show ¬ ((1 : Int) + 1 = 2 ∧ Zc K) from fun h => hb h.2, show (1 : Int) + 1 < 3 from by decide]
          exact .inl ⟨⟨rfl, j2, j3, (by dsimp only; omega), (by dsimp only; omega), fun h => absurd h (by dsimp only; omega)⟩, rfl, j8, fun _ => h9, fun _ => ⟨by dsimp only; omega, h5, hb⟩, fun _ => h0 _ d1⟩
      · have hl : X0 l0 l1 l2 2 = l2 := rfl
        rw [hl] at h5
        have h9 := j9 (by decide)
        have h10 := j10 (by decide)
        simp only [Y2, Yf, show ¬ ((2 : Int) = 0) from by decide, show ¬ ((2 : Int) = 1) from by decide, if_false, show ¬ ((2 : Int) + 1 = 2 ∧ Zc K) from fun h => absurd h.1 (by decide), show ¬ (2 : Int) + 1 < 3 from by decide]
        refine .inr (.inr ⟨rfl, rfl, ?_⟩)
        have hb := h10.2.2
        unfold Zc at hb
        unfold X6; dsimp only; omega
  · rw [if_neg (by decide), if_pos rfl]
    exact .inr (.inl ⟨rfl, by dsimp only; omega, by dsimp only; omega⟩)
theorem hdPut_ok {l0 l1 l2 : Int} {h : HS} {c : Int} (hL : LimO l0 l1 l2) (hj : hdJ l0 l1 l2 h) : hdJ l0 l1 l2 (XA l0 l1 l2 h c) ∨ HdBad (XA l0 l1 l2 h c) ∨ Zz (XA l0 l1 l2 h c) := by
  unfold XA
  rw [if_neg (fun q => q hj.1.1)]
  split
  · rename_i h3
    rcases hdMagic_ok (c := c) hL hj h3 with h | h
    · exact .inl h
    · exact .inr (.inl h)
  · exact hdNum_ok hL hj (by have := hj.1.2.2.1; omega)

end Go.Proofs.YtggamdlpiejbiaaGreat
namespace Go.Proofs.YtggamdlpiejbiaaGreat
open Go.RowKit Go.Shelf


/-- A head's reader, as one part. -/
def hdR (g : Nat) (l0 l1 l2 : Int) (h : HS) : HP := exs fun p : Value × HP => [QB g [.int .i64 h.K, .int .i64 h.W, .int .i64 h.H, .int .i64 h.M, .int .i64 l0, .int .i64 l1, .int .i64 l2, .int .i64 h.at_, .int .i64 h.i, p.1, .int .i64 h.last, .int .i64 h.e] 234, p.2, pur (h.last = 0 → hdT l0 l1 l2 h p.1 p.2)]


theorem hdPut_rep (g : Nat) (l0 l1 l2 : Int) (h : HS) (c : Int) (hc0 : 0 ≤ c) (hc1 : c ≤ 255) (hL : LimO l0 l1 l2) (hj : hdJ l0 l1 l2 h) :
    Fn Tryz.prog 123 #[.pointer (some ⟨g, 0, none⟩), .int .u8 c] [hdR g l0 l1 l2 h] (fun v l => v = .int .i64 (XA l0 l1 l2 h c).last ∧ l = [hdR g l0 l1 l2 (XA l0 l1 l2 h c)]) := by
  refine Fn.exs fun ⟨pt, A⟩ => ?_
  refine (Fn.pur (F := [QB g [.int .i64 h.K, .int .i64 h.W, .int .i64 h.H, .int .i64 h.M, .int .i64 l0, .int .i64 l1, .int .i64 l2, .int .i64 h.at_, .int .i64 h.i, pt, .int .i64 h.last, .int .i64 h.e] 234, A]) fun hT => ?_).pre (Take.ent' (by repeat' constructor))
  have hl0 := hj.1.1
  rw [hl0]
  have := hdPut_spec g l0 l1 l2 h pt A c hc0 hc1 ⟨hL.a, hL.b, hL.c⟩ hj.1 (hT hl0)
  refine this.mono ?_
  rintro v l ⟨s', pt', A', rfl, rfl, hok, rfl⟩
  exact ⟨_, ⟨rfl, rfl⟩, Ent.exs (pt', A') ((Ent.pur (fun q => (hok q).2) (Ent.refl _)).trans (Ent.swap.trans (Ent.cons Ent.swap)))⟩
theorem hdHead_rep (g : Nat) (l0 l1 l2 : Int) (h : HS) : Fn Tryz.prog 116 #[.pointer (some ⟨g, 0, none⟩)] [hdR g l0 l1 l2 h] (fun v l => v = (if h.e = 0 then .tuple #[.agg #[.int .i64 h.K, .int .i64 h.W, .int .i64 h.H, .int .i64 h.M], .int .i64 0] else .tuple #[.agg #[.int .i64 0, .int .i64 0, .int .i64 0, .int .i64 0], .int .i64 h.e]) ∧ l = [hdR g l0 l1 l2 h]) := by
  refine Fn.exs fun ⟨pt, A⟩ => ?_
  have hf : Fn Tryz.prog 116 #[.pointer (some ⟨g, 0, none⟩)] [QB g [.int .i64 h.K, .int .i64 h.W, .int .i64 h.H, .int .i64 h.M, .int .i64 l0, .int .i64 l1, .int .i64 l2, .int .i64 h.at_, .int .i64 h.i, pt, .int .i64 h.last, .int .i64 h.e] 234, A, pur (h.last = 0 → hdT l0 l1 l2 h pt A)] (fun v l => v = (if h.e = 0 then .tuple #[.agg #[.int .i64 h.K, .int .i64 h.W, .int .i64 h.H, .int .i64 h.M], .int .i64 0] else .tuple #[.agg #[.int .i64 0, .int .i64 0, .int .i64 0, .int .i64 0], .int .i64 h.e]) ∧ l = [QB g [.int .i64 h.K, .int .i64 h.W, .int .i64 h.H, .int .i64 h.M, .int .i64 l0, .int .i64 l1, .int .i64 l2, .int .i64 h.at_, .int .i64 h.i, pt, .int .i64 h.last, .int .i64 h.e] 234, A, pur (h.last = 0 → hdT l0 l1 l2 h pt A)]) := by
    refine Fn.frm (F := [A, pur (h.last = 0 → hdT l0 l1 l2 h pt A)]) (m := [QB g [.int .i64 h.K, .int .i64 h.W, .int .i64 h.H, .int .i64 h.M, .int .i64 l0, .int .i64 l1, .int .i64 l2, .int .i64 h.at_, .int .i64 h.i, pt, .int .i64 h.last, .int .i64 h.e] 234]) (R := fun v => v = (if h.e = 0 then .tuple #[.agg #[.int .i64 h.K, .int .i64 h.W, .int .i64 h.H, .int .i64 h.M], .int .i64 0] else .tuple #[.agg #[.int .i64 0, .int .i64 0, .int .i64 0, .int .i64 0], .int .i64 h.e])) ((hdHead_spec g h.K h.W h.H h.M l0 l1 l2 h.at_ h.i h.last h.e pt).mono ?_)
    rintro v l ⟨hv, rfl⟩
    refine ⟨_, ⟨?_, rfl⟩, Ent.refl _⟩
    rcases hv with ⟨h0, rfl⟩ | ⟨h0, rfl⟩
    · rw [if_neg h0]
    · rw [if_pos h0]
  refine hf.mono ?_
  rintro v l ⟨rfl, rfl⟩
  exact ⟨_, ⟨rfl, rfl⟩, Ent.exs (pt, A) (Ent.refl _)⟩
theorem hdHead_alt (g : Nat) (l0 l1 l2 : Int) (h : HS) : Fn Tryz.prog 116 #[.pointer (some ⟨g, 0, none⟩)] [hdR g l0 l1 l2 h] (fun v l => (h.e ≠ 0 ∧ v = .tuple #[.agg #[.int .i64 0, .int .i64 0, .int .i64 0, .int .i64 0], .int .i64 h.e] ∧ l = [hdR g l0 l1 l2 h]) ∨ (h.e = 0 ∧ v = .tuple #[.agg #[.int .i64 h.K, .int .i64 h.W, .int .i64 h.H, .int .i64 h.M], .int .i64 0] ∧ l = [hdR g l0 l1 l2 h])) := by
  refine (hdHead_rep g l0 l1 l2 h).mono ?_
  rintro v l ⟨rfl, rfl⟩
  refine ⟨_, ?_, Ent.refl _⟩
  by_cases h0 : h.e = 0
  · rw [if_pos h0]; exact .inr ⟨h0, rfl, rfl⟩
  · rw [if_neg h0]; exact .inl ⟨h0, rfl, rfl⟩
theorem hdNew_rep (a b d : Int) : Fn Tryz.prog 112 #[.agg #[.int .i64 a, .int .i64 b, .int .i64 d]] [] (fun v l => ∃ g, v = .pointer (some ⟨g, 0, none⟩) ∧ l = [hdR g (min (max a 1) 4096) (min (max b 1) 65536) (min (max d 1) 65535) hd0]) := by
  refine (hdNew_spec a b d).mono ?_
  rintro v l ⟨g, rfl, rfl⟩
  refine ⟨_, ⟨g, rfl, rfl⟩, Ent.exs (.pointer none, emp) ?_⟩
  have hT : hd0.last = 0 → hdT (min (max a 1) 4096) (min (max b 1) 65536) (min (max d 1) 65535) hd0 (.pointer none) emp := fun _ => .inl ⟨by decide, rfl, rfl⟩
  refine (Ent.pur hT (Yp (Ent.refl _))).trans ?_
  exact Take.ent' (by repeat' constructor)

end Go.Proofs.YtggamdlpiejbiaaGreat
namespace Go.Proofs.YtggamdlpiejbiaaGreat
open Go.RowKit Go.Shelf


def Xv (a : Int) : Int := min (max a 1) 4096
def Xw (a : Int) : Int := min (max a 1) 65536
def Xx (a : Int) : Int := min (max a 1) 65535
theorem lim_o (a b d : Int) : LimO (Xv a) (Xw b) (Xx d) := ⟨by unfold Xv; omega, by unfold Xw; omega, by unfold Xx; omega⟩
end Go.Proofs.YtggamdlpiejbiaaGreat
namespace Go.Proofs.YtggamdlpiejbiaaGreat
open Go.RowKit Go.Shelf

theorem hdAll_spec  : Fn Tryz.prog 21 #[] [] (fun v l => v = .agg #[.int .i64 4096, .int .i64 65536, .int .i64 65535] ∧ l = []) := by
 refine Qk (vs := []) Tryz.func21 rfl Tryz.ntmps21 rfl (Qb (Qa (XK rfl ?_)))
 intro g1
 refine WpL.nil (Qb (Qa ?_))
 refine XN rfl rfl ?_
 refine QY rfl rfl rfl (by rfl) rfl ?_
 refine WpL.nil (Qh ?_)
 apply RetQ.mk
 ·exact (XF rfl rfl (by rfl))
 ·exact ⟨rfl, rfl⟩
 ·exact Ent.nil _

end Go.Proofs.YtggamdlpiejbiaaGreat
namespace Go.Proofs.YtggamdlpiejbiaaGreat
open Go.RowKit Go.Shelf


def badI (w M : Int) : List Int → Int → Int
  | [], _ => 0
  | x :: xs, i => if x > M then w * (i + 1) else badI w M xs (i + 1)
/-- The number of the byte with which a raw raster is wrong. -/
def YT (K : Int) (W H : Nat) (M : Int) (bs : List Int) : Int := if K = 4 then 0 else badI ((Qi M : Nat) : Int) M (Zp (Qi M) (bs.take (QD K W (Qi M) * H))) 0

end Go.Proofs.YtggamdlpiejbiaaGreat
