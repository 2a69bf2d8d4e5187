/- Walks and plain laws, a part of the proof of ImageTurns: every input that the law's guards let in, no condition beside. -/
import Derived.Scope
import Derived.Test.YtggamdlpiejbiaaGreatM21
namespace Go.Proofs.YtggamdlpiejbiaaGreat
open Go.RowKit Go.Shelf


section
variable {P : Program} {b : Frame} {a : Act} {k : List Item} {cs : List Frame} {w : World}
theorem Yk {c : Code} : step P (lone (b.atR a (.code (.scope c) :: k)) cs w) = .next (lone (b.atR a (.code c :: .inScope c :: k)) cs w) :=
  step_lone_go (by simp [stepG, stepG.exec, Frame.atR])
theorem stepR_inScope {c : Code} : step P (lone (b.atR a (.inScope c :: k)) cs w) = .next (lone (b.atR a k) cs w) :=
  step_lone_go (by simp [stepG, stepG.exec, Frame.atR])
theorem wpIn_scope {F : Fence} {n : Nat} {Q : Exit → Act → World → Prop} {c : Code} (h : c.wpIn F n P (Exit.noGoto Q) a w) : (Code.scope c).wpIn F n P Q a w := by
  intro b k cs hro hb hr
  have h0 : (lone (b.atR a (.code (.scope c) :: k)) cs w).fenced P F := fenced_calm hb hr rfl
  obtain ⟨e, a₁, w₁, hq, harr⟩ := h b (.inScope c :: k) cs hro hb hr
  cases e with
  | normal => exact ⟨.normal, a₁, w₁, hq, .head h0 Yk (StepsIn.trans harr (.one (fenced_calm hb hr rfl) stepR_inScope))⟩
  | exit id =>
    have hx : exitTo id (.inScope c :: k) = exitTo id k := by simp [exitTo]
    exact ⟨.exit id, a₁, w₁, hq, fun k' hk => .head h0 Yk (harr.1 k' (by rw [hx]; exact hk)),
      fun hr' hk => let ⟨k₁, h1, h2⟩ := harr.2 hr' (by rw [hx]; exact hk); ⟨k₁, h1, .head h0 Yk h2⟩⟩
  | goto l => exact hq.elim
  | ret => exact ⟨_, a₁, w₁, hq, .of_steps (.one h0 Yk) harr⟩
  | panic ch => exact ⟨_, a₁, w₁, hq, .of_steps (.one h0 Yk) harr⟩
  | outgrown => exact ⟨_, a₁, w₁, hq, .of_steps (.one h0 Yk) harr⟩
end
section
variable {P : Program} {n : Cx} {D : List Deferred} {Q : Post} {fr : Fr} {l : List HP}
theorem Wp.label {i : Nat} (h : Q .normal D fr l) : Wp P n D (.label i) Q fr l := fun _ _ _ hh hs => wpIn_label ⟨D, fr, l, h, hh, .refl hs⟩
def scQ (Q : Post) : Post
  | .goto _, _, _, _ => False
  | e, D, fr, l => Q e D fr l
/-- A part with a label to which nothing jumps. -/
theorem Wp.scope {c : Code} (h : Wp P n D c (scQ Q) fr l) : Wp P n D (.scope c) Q fr l := fun a w U hh hs => wpIn_scope (Go.wpIn_mono (h a w U hh hs) fun e a' w' => by
  rintro ⟨D', fr', l', q, h1, h2⟩
  cases e with
  | goto i => exact q.elim
  | _ => exact ⟨D', fr', l', q, h1, h2⟩)
end

theorem rcFind_spec (A0 : HP) (W H w h : Nat) (px qx : List Int) (a b : Option Addr) (c d : Nat) (hA : RdsL [A0] a (Q5 px)) (hB : RdsL [A0] b (Q5 qx)) (hW : W ≤ 1000) (hH : H ≤ 1000) (hw : w ≤ 1000) (hh : h ≤ 1000) (hl : px.length = W * H) (hq : qx.length = w * h) (hc : px.length ≤ c) (hd : qx.length ≤ d) : Fn Tryz.prog 94 #[.agg #[.int .i64 (W : Int), .int .i64 (H : Int), .slice a px.length c], .agg #[.int .i64 (w : Int), .int .i64 (h : Int), .slice b qx.length d]] [A0] (fun v l => ∃ a' c', v = .slice a' (Xa (Q7 px W H qx w h) W H).length c' ∧ l = [QG 106 2 a' c' (Xa (Q7 px W H qx w h) W H).length ((Xa (Q7 px W H qx w h) W H).flatMap plC), A0]) := by
 refine Qk (vs := [.agg #[.int .i64 (W : Int), .int .i64 (H : Int), .slice a px.length c], .agg #[.int .i64 (w : Int), .int .i64 (h : Int), .slice b qx.length d]]) Tryz.func94 rfl Tryz.ntmps94 rfl (Qb (Qa (QP rfl rfl rfl ?_)))
 intro gM
 refine QP rfl rfl rfl ?_
 intro gO
 refine Qe rfl rfl (WpL.nil (Qb (Qa (Qe rfl rfl (WpL.nil (Qb (Qb (Qa (Qj (o2 := 1) rfl rfl rfl (Qo rfl rfl (by rfl) ?_))))))))))
 refine Qd rfl rfl (WpL.nil (Wp.block ?_))
 refine Wp.loopD (σ := AsX) (fun x => x.k ≤ H) [5, 6, 7, 10, 11, 12, 13, 14, 15, 16, 17, 18, 19, 20, 21, 22, 23, 24, 25, 26, 27, 28, 29, 30, 31, 32, 33, 34, 35, 36, 37, 38, 39] (fun x => [(10, .int .i64 (x.k : Int)), (5, .slice x.a (Xa (Q7 px W H qx w h) W x.k).length x.c)]) (fun x => [QG 106 2 x.a x.c (Xa (Q7 px W H qx w h) W x.k).length ((Xa (Q7 px W H qx w h) W x.k).flatMap plC), QB gO [.int .i64 (w : Int), .int .i64 (h : Int), .slice b qx.length d] 77, QB gM [.int .i64 (W : Int), .int .i64 (H : Int), .slice a px.length c] 77, A0]) (fun x => H - x.k) ⟨0, none, 0⟩ ?_ (by repeat (first | exact FrLe.nil | refine FrLe.cons rfl ?_)) ?_ ?_
 ·exact Nat.zero_le _
 ·exact Ent.own_nil (Ent.refl _)
 ·rintro ⟨y, a1, c1⟩ hy
  dsimp only at hy ⊢
  refine Qb (Qa (Q6 rfl rfl rfl (WpL.nil (Qb (Qm rfl (fun h1 => ?_) (fun h1 => ?_))))))
  ·have hyH : y < H := by omega
   refine Wp.skip (Qb (Wp.block ?_))
   refine Qb (Qa (Qd rfl rfl (Qe rfl rfl (WpL.nil (Wp.scope (Qb (Wp.label (Qb (Qa (Qj (o2 := 0) rfl rfl rfl (Qo rfl rfl (by rfl) ?_)))))))))))
   refine Qd rfl rfl (WpL.nil (Wp.block ?_))
   rw [show (Xa (Q7 px W H qx w h) W y) = (Xa (Q7 px W H qx w h) W y ++ Xp (Q7 px W H qx w h) y 0) from (List.append_nil _).symm]
   refine Wp.loopD (σ := AsX) (fun x => x.k ≤ W) [5, 7, 15, 16, 17, 18, 19, 20, 21, 22, 23, 24, 25, 26, 27, 28, 29, 30, 31, 32, 33, 34, 35, 36, 37, 38] (fun x => [(15, .int .i64 (x.k : Int)), (5, .slice x.a (Xa (Q7 px W H qx w h) W y ++ Xp (Q7 px W H qx w h) y x.k).length x.c)]) (fun x => [QG 106 2 x.a x.c (Xa (Q7 px W H qx w h) W y ++ Xp (Q7 px W H qx w h) y x.k).length ((Xa (Q7 px W H qx w h) W y ++ Xp (Q7 px W H qx w h) y x.k).flatMap plC), QB gO [.int .i64 (w : Int), .int .i64 (h : Int), .slice b qx.length d] 77, QB gM [.int .i64 (W : Int), .int .i64 (H : Int), .slice a px.length c] 77, A0]) (fun x => W - x.k) ⟨0, a1, c1⟩ ?_ (by repeat (first | exact FrLe.nil | refine FrLe.cons rfl ?_)) ?_ ?_
   ·exact Nat.zero_le _
   ·exact Ent.refl _
   ·rintro ⟨n, a2, c2⟩ hn
    dsimp only at hn ⊢
    refine Qb (Qa (Q6 rfl rfl rfl (WpL.nil (Qb (Qm rfl (fun h3 => ?_) (fun h3 => ?_))))))
    ·have hnW : n < W := by omega
     have hfy := findY_len (Q7 px W H qx w h) W y
     have hfx := findX_len (Q7 px W H qx w h) y n
     have hyW : y * W ≤ 1000 * 1000 := Nat.mul_le_mul (by omega) hW
     have hol : (Xa (Q7 px W H qx w h) W y ++ Xp (Q7 px W H qx w h) y n).length ≤ 1001000 := by rw [List.length_append]; omega
     refine Wp.skip (Qb (Wp.block ?_))
     refine Qb (Qa (Qd rfl rfl (Qe rfl rfl (WpL.nil (Qb (Qb (Qa ?_)))))))
     refine Qz (vs := [_, _, _]) rfl rfl rfl (by rfl) ?_
     refine Qd rfl rfl (Qd rfl rfl (Qj (o2 := 0) rfl rfl rfl (Qo rfl rfl (by rfl) ?_)))
     refine Qj (o2 := 1) rfl rfl rfl (Qo rfl rfl (by rfl) ?_)
     refine Qg rfl rfl (by repeat' constructor) (rcInside_spec W H px.length a c n y w h hW hH) ?_
     rintro _ _ ⟨rfl, rfl⟩
     simp only [Qr]
     refine XY rfl rfl (WpL.nil (Qm rfl (fun h4 => ?_) (fun h4 => ?_)))
     ·rw [← findX_stop (has_stop (px := px) (qx := qx) h4) W (by omega), show Xa (Q7 px W H qx w h) W y ++ Xp (Q7 px W H qx w h) y W = (Xa (Q7 px W H qx w h) W (y + 1)) from rfl]
      refine QL (Qa (QE rfl rfl rfl (Qt (by omega) (by omega)) ?_))
      refine Qd rfl rfl (WpL.nil (Qy (⟨y + 1, a2, c2⟩ : AsX) ?_ ?_ (by ((repeat (first | exact Top.refl | refine Top.push rfl ?_)); done)) (by repeat (first | exact FrLe.nil | refine FrLe.cons rfl ?_)) ?_))
      ·simp only; omega
      ·simp only; omega
      ·exact Ent.refl _
     ·refine Wp.skip (Qb (Qa ?_))
      refine Qz (vs := [_, _, _]) rfl rfl rfl (by rfl) ?_
      refine Qz (vs := [_, _, _]) rfl rfl rfl (by rfl) ?_
      refine Qd rfl rfl (Qd rfl rfl (Qg rfl rfl (by repeat' constructor) (rcHas_spec A0 W H w h px qx a b c d hA hB hW hH hw hh hl hq hc hd n y (by omega)) ?_))
      rintro _ _ ⟨rfl, rfl⟩
      simp only [Qr]
      refine WpL.nil (XC rfl (fun h5 => ?_) (fun h5 => ?_))
      ·refine Qa (Qd rfl rfl (Qd rfl rfl (Qd rfl rfl ?_)))
       refine XN rfl rfl ?_
       refine s_bsA1 rfl rfl (by rfl) (by rfl) (by rfl) (by rfl) ?_
       intro g3
       refine X9 rfl rfl rfl (by repeat' constructor) (by rfl) (by rfl) (by rfl) (by rfl) (by omega) (by omega) ?_
       intro a37 c37
       rw [show [Value.int .i64 (n : Int), .int .i64 (y : Int)] = plC ((n : Int), (y : Int)) from rfl, show (Xa (Q7 px W H qx w h) W y ++ Xp (Q7 px W H qx w h) y n).flatMap plC ++ plC ((n : Int), (y : Int)) = (Xa (Q7 px W H qx w h) W y ++ Xp (Q7 px W H qx w h) y (n + 1)).flatMap plC by rw [Xp, if_pos h5]; simp [List.flatMap_append], show (Xa (Q7 px W H qx w h) W y ++ Xp (Q7 px W H qx w h) y n).length + 1 = (Xa (Q7 px W H qx w h) W y ++ Xp (Q7 px W H qx w h) y (n + 1)).length by rw [Xp, if_pos h5, ← List.append_assoc, List.length_append (bs := [_])]; rfl]
       refine Qe rfl rfl (WpL.nil (Qa (QE rfl rfl rfl (Qt (by omega) (by omega)) ?_)))
       refine Qd rfl rfl (WpL.nil (Qy (⟨n + 1, a37, c37⟩ : AsX) ?_ ?_ (by ((repeat (first | exact Top.refl | refine Top.push rfl ?_)); done)) (by repeat (first | exact FrLe.nil | refine FrLe.cons rfl ?_)) ?_))
       ·simp only; omega
       ·simp only; omega
       ·exact Take.ent' (by repeat' constructor)
      ·rw [show (Xa (Q7 px W H qx w h) W y ++ Xp (Q7 px W H qx w h) y n) = (Xa (Q7 px W H qx w h) W y ++ Xp (Q7 px W H qx w h) y (n + 1)) by rw [Xp, if_neg (by rw [h5]; decide), List.append_nil]]
       refine Wp.skip (Qa (QE rfl rfl rfl (Qt (by omega) (by omega)) ?_))
       refine Qd rfl rfl (WpL.nil (Qy (⟨n + 1, a2, c2⟩ : AsX) ?_ ?_ (by ((repeat (first | exact Top.refl | refine Top.push rfl ?_)); done)) (by repeat (first | exact FrLe.nil | refine FrLe.cons rfl ?_)) ?_))
       ·simp only; omega
       ·simp only; omega
       ·exact Take.ent' (by repeat' constructor)
    ·have hnE : n = W := by omega
     rw [hnE, show (Xa (Q7 px W H qx w h) W y ++ Xp (Q7 px W H qx w h) y W) = (Xa (Q7 px W H qx w h) W (y + 1)) from rfl]
     refine QL (Qa (QE rfl rfl rfl (Qt (by omega) (by omega)) ?_))
     refine Qd rfl rfl (WpL.nil (Qy (⟨y + 1, a2, c2⟩ : AsX) ?_ ?_ (by ((repeat (first | exact Top.refl | refine Top.push rfl ?_)); done)) (by repeat (first | exact FrLe.nil | refine FrLe.cons rfl ?_)) ?_))
     ·simp only; omega
     ·simp only; omega
     ·exact Ent.refl _
  ·obtain rfl : y = H := by omega
   refine QL (Qb (Qa (Qd rfl rfl (Qe rfl rfl (WpL.nil (Qh ?_))))))
   apply RetQ.mk
   ·exact (Res.one rfl rfl)
   ·exact ⟨a1, c1, rfl, rfl⟩
   ·exact Take.ent' (by repeat' constructor)

end Go.Proofs.YtggamdlpiejbiaaGreat
namespace Go.Proofs.YtggamdlpiejbiaaGreat
open Go.RowKit Go.Shelf


theorem sub_snoc {px : List Int} {L x i : Nat} (h : L + (x + i) < px.length) : (px.drop (L + x)).take i ++ [px[L + (x + i)]] = (px.drop (L + x)).take (i + 1) := by
  have h1 : i < (px.drop (L + x)).length := by rw [List.length_drop]; omega
  rw [List.take_succ_eq_append_getElem h1, List.getElem_drop]
  congr 3
  omega

theorem rAt_spec (A0 : HP) (W H : Nat) (px : List Int) (a : Option Addr) (c : Nat) (hA : RdsL [A0] a (Q5 px)) (hW : W ≤ 1000) (hH : H ≤ 1000) (x y : Nat) (hx : x < W) (hy : y < H) (hix : y * W + x < px.length) : Fn Tryz.prog 200 #[.agg #[.int .i64 (W : Int), .int .i64 (H : Int), .slice a px.length c], .int .i64 (x : Int), .int .i64 (y : Int)] [A0] (fun v l => v = .tuple #[.int .u64 px[y * W + x], .bool true] ∧ l = [A0]) := by
 have hyw : ((y * W : Nat) : Int) = (y : Int) * (W : Int) := Int.natCast_mul y W
 have hyW : y * W ≤ 1000 * 1000 := Nat.mul_le_mul (by omega) hW
 refine Qk (vs := [.agg #[.int .i64 (W : Int), .int .i64 (H : Int), .slice a px.length c], .int .i64 (x : Int), .int .i64 (y : Int)]) Tryz.func200 rfl Tryz.ntmps200 rfl (Qb (Qa (QP rfl rfl rfl ?_)))
 intro g1
 refine Qe rfl rfl (Qe rfl rfl (WpL.nil (Qb (Qb (Qa (Qd rfl rfl (Q6 rfl rfl rfl (Qd rfl rfl (Qu (dj := 10) rfl (decide_eq_false (by omega)) ?_)))))))))
 refine Qf rfl rfl (Qd rfl rfl (Qf rfl rfl (Q6 rfl rfl rfl (Qq rfl rfl rfl (Qd rfl rfl (Qu (dj := 14) rfl (decide_eq_false (by omega)) ?_))))))
 refine Qf rfl rfl (Qd rfl rfl (Qf rfl rfl (Qj (o2 := 0) rfl rfl rfl (Qf rfl rfl (Qo rfl rfl (by rfl) ?_)))))
 refine Qf rfl rfl (Zo rfl rfl rfl (Qq rfl rfl rfl (Qd rfl rfl (Qu (dj := 20) rfl (decide_eq_false (by omega)) ?_))))
 refine Qf rfl rfl (Qd rfl rfl (Qf rfl rfl (Qj (o2 := 1) rfl rfl rfl (Qf rfl rfl (Qo rfl rfl (by rfl) ?_)))))
 refine Qf rfl rfl (Zo rfl rfl rfl (Qq rfl rfl rfl (WpL.nil (QA rfl (by omega) ?_))))
 refine Wp.skip (Qb (Qa (Qj (o2 := 2) rfl rfl rfl (Qo rfl rfl (by rfl) ?_))))
 refine Qd rfl rfl (Qj (o2 := 0) rfl rfl rfl (Qo rfl rfl (by rfl) ?_))
 refine Xz rfl rfl rfl (Qt (by omega) (by omega)) ?_
 refine Qd rfl rfl (QE rfl rfl rfl (Qt (by omega) (by omega)) ?_)
 refine Q3 (y * W + x) rfl rfl rfl hA (by exact Take.ent' (by repeat' constructor)) (by omega) hix (by rw [Xt]; exact hix) ?_
 refine Xb rfl rfl hA (by exact Take.ent' (by repeat' constructor)) (Yg px hix) ?_
 refine Qe rfl rfl (Qe rfl rfl (WpL.nil (Qh ?_)))
 apply RetQ.mk
 ·exact (QF rfl rfl rfl)
 ·exact ⟨rfl, rfl⟩
 ·exact Take.ent' (by repeat' constructor)

theorem rSub_spec (A0 : HP) (W H : Nat) (px : List Int) (a : Option Addr) (c : Nat) (hA : RdsL [A0] a (Q5 px)) (hW : W ≤ 1000) (hH : H ≤ 1000) (hl : px.length = W * H) (x y w h : Nat) (hx : x ≤ 1000) (hy : y ≤ 1000) (hw : w ≤ 1000) (hh : h ≤ 1000) : Fn Tryz.prog 184 #[.agg #[.int .i64 (W : Int), .int .i64 (H : Int), .slice a px.length c], .int .i64 (x : Int), .int .i64 (y : Int), .int .i64 (w : Int), .int .i64 (h : Int)] [A0] (fun v l => (Yy W H x y w h ∧ ∃ a' c', v = .tuple #[.agg #[.int .i64 (w : Int), .int .i64 (h : Int), .slice a' (Xf px W x y w h).length c'], .bool true] ∧ l = [QG 92 1 a' c' (Xf px W x y w h).length (Q5 (Xf px W x y w h)), A0]) ∨ (¬ Yy W H x y w h ∧ v = .tuple #[.agg #[.int .i64 0, .int .i64 0, .slice none 0 0], .bool false] ∧ l = [A0])) := by
 refine Qk (vs := [.agg #[.int .i64 (W : Int), .int .i64 (H : Int), .slice a px.length c], .int .i64 (x : Int), .int .i64 (y : Int), .int .i64 (w : Int), .int .i64 (h : Int)]) Tryz.func184 rfl Tryz.ntmps184 rfl (Qb (Qa (QP rfl rfl rfl ?_)))
 intro gM
 refine XK rfl ?_
 intro gR
 refine Qe rfl rfl (WpL.nil (Qb (Qb (Qa (Qd rfl rfl (Q6 rfl rfl rfl (Qd rfl rfl (Qu (dj := 19) rfl (decide_eq_false (by omega)) ?_))))))))
 refine Qf rfl rfl (Qd rfl rfl (Qf rfl rfl (Q6 rfl rfl rfl (Qq rfl rfl rfl (Qd rfl rfl (Qu (dj := 23) rfl (decide_eq_false (by omega)) ?_))))))
 refine Qf rfl rfl (Qd rfl rfl (Qf rfl rfl (Q6 rfl rfl rfl (Qq rfl rfl rfl (Qd rfl rfl (QH rfl rfl rfl (fun hg3 => ?_) (fun hg3 => ?_)))))))
 ·have hg3 := of_decide_eq_false hg3
  refine Qd rfl rfl (Qf rfl rfl (Q6 rfl rfl rfl (Qq rfl rfl rfl (Qd rfl rfl (QH rfl rfl rfl (fun hg4 => ?_) (fun hg4 => ?_))))))
  ·have hg4 := of_decide_eq_false hg4
   refine Qd rfl rfl (Qf rfl rfl (Qj (o2 := 0) rfl rfl rfl (Qf rfl rfl (Qo rfl rfl (by rfl) ?_))))
   refine Qf rfl rfl (s_gt rfl rfl rfl (Qq rfl rfl rfl (Qd rfl rfl (QH rfl rfl rfl (fun hg5 => ?_) (fun hg5 => ?_)))))
   ·have hg5 := of_decide_eq_false hg5
    refine Qd rfl rfl (Qf rfl rfl (Qj (o2 := 1) rfl rfl rfl (Qf rfl rfl (Qo rfl rfl (by rfl) ?_))))
    refine Qf rfl rfl (s_gt rfl rfl rfl (Qq rfl rfl rfl (WpL.nil (Qm rfl (fun h0 => ?_) (fun h0 => ?_)))))
    ·refine Qb (Qa ?_)
     refine XN rfl rfl ?_
     refine QY rfl rfl rfl (by rfl) rfl ?_
     refine Qe rfl rfl (WpL.nil (Qh ?_))
     apply RetQ.mk
     ·exact (Xl rfl rfl (by rfl) rfl)
     ·exact .inr ⟨by unfold Yy; omega, rfl, rfl⟩
     ·exact Take.ent' (by repeat' constructor)
    ·refine Wp.skip (Qb (Qb (Qa (Qd rfl rfl (Qj (o2 := 0) rfl rfl rfl (Qo rfl rfl (by rfl) ?_))))))
     refine Qd rfl rfl (Yz rfl rfl rfl (Qt (by omega) (by omega)) ?_)
     refine s_gt rfl rfl rfl (Qd rfl rfl (QH rfl rfl rfl (fun hg6 => ?_) (fun hg6 => ?_)))
     ·have hg6 := of_decide_eq_false hg6
      refine Qd rfl rfl (Qf rfl rfl (Qj (o2 := 1) rfl rfl rfl (Qf rfl rfl (Qo rfl rfl (by rfl) ?_))))
      refine Qf rfl rfl (Qd rfl rfl (Qf rfl rfl (Yz rfl rfl rfl (Qt (by omega) (by omega)) ?_)))
      refine Qf rfl rfl (s_gt rfl rfl rfl (Qq rfl rfl rfl (WpL.nil (Qm rfl (fun h1 => ?_) (fun h1 => ?_)))))
      ·refine Qb (Qa ?_)
       refine XN rfl rfl ?_
       refine QY rfl rfl rfl (by rfl) rfl ?_
       refine Qe rfl rfl (WpL.nil (Qh ?_))
       apply RetQ.mk
       ·exact (Xl rfl rfl (by rfl) rfl)
       ·exact .inr ⟨by unfold Yy; omega, rfl, rfl⟩
       ·exact Take.ent' (by repeat' constructor)
      ·refine Wp.skip (Qb (Qa (Qd rfl rfl (Qd rfl rfl ?_))))
       refine XN rfl rfl ?_
       refine XK rfl ?_
       intro gS
       refine QY rfl rfl rfl (by rfl) rfl ?_
       refine WpL.nil (Qb (Qb (Qa (Qe rfl rfl (WpL.nil (Wp.block ?_))))))
       have hin : Yy W H x y w h := by unfold Yy; omega
       refine Wp.loopD (σ := AsX) (fun q => q.k ≤ h) [13, 14, 15, 16, 62, 63, 64, 65, 66, 67, 68, 69, 70, 71, 72, 73, 74, 75, 76, 77, 78, 79, 80, 81, 82, 83, 84, 85, 86, 87, 88] (fun q => [(13, .int .i64 (q.k : Int))]) (fun q => [QG 92 1 q.a q.c (Xf px W x y w q.k).length (Q5 (Xf px W x y w q.k)), QB gS [.int .i64 (w : Int), .int .i64 (h : Int), .slice q.a (Xf px W x y w q.k).length q.c] 69, QB gR [.int .i64 0, .int .i64 0, .slice none 0 0] 69, QB gM [.int .i64 (W : Int), .int .i64 (H : Int), .slice a px.length c] 69, A0]) (fun q => h - q.k) ⟨0, none, 0⟩ ?_ (by repeat (first | exact FrLe.nil | refine FrLe.cons rfl ?_)) ?_ ?_
       ·exact Nat.zero_le _
       ·exact Ent.own_nil (Ent.refl _)
       ·rintro ⟨k, a1, c1⟩ hk
        dsimp only at hk ⊢
        refine Qb (Qb (Qa (Qd rfl rfl (Qd rfl rfl (Q6 rfl rfl rfl (WpL.nil (Qm rfl (fun h3 => ?_) (fun h3 => ?_))))))))
        ·have hkh : k < h := by omega
         have hr1 := prow_in hl hin hkh
         have hin2 := hin
         unfold Yy at hin2
         have hpk := Zv hl hin k (by omega)
         have hkw : k * w ≤ 1000 * 1000 := Nat.mul_le_mul (by omega) (by omega)
         refine Wp.skip (Qb (Wp.block ?_))
         refine Qb (Qa (Qe rfl rfl (WpL.nil (Wp.block ?_))))
         rw [show (Xf px W x y w k) = (Xf px W x y w k ++ (px.drop ((y + k) * W + x)).take 0) by simp]
         refine Wp.loopD (σ := AsX) (fun q => q.k ≤ w) [14, 15, 16, 67, 68, 69, 70, 71, 72, 73, 74, 75, 76, 77, 78, 79, 80, 81, 82, 83, 84, 85, 86, 87, 88] (fun q => [(14, .int .i64 (q.k : Int))]) (fun q => [QG 92 1 q.a q.c (Xf px W x y w k ++ (px.drop ((y + k) * W + x)).take q.k).length (Q5 (Xf px W x y w k ++ (px.drop ((y + k) * W + x)).take q.k)), QB gS [.int .i64 (w : Int), .int .i64 (h : Int), .slice q.a (Xf px W x y w k ++ (px.drop ((y + k) * W + x)).take q.k).length q.c] 69, QB gR [.int .i64 0, .int .i64 0, .slice none 0 0] 69, QB gM [.int .i64 (W : Int), .int .i64 (H : Int), .slice a px.length c] 69, A0]) (fun q => w - q.k) ⟨0, a1, c1⟩ ?_ (by repeat (first | exact FrLe.nil | refine FrLe.cons rfl ?_)) ?_ ?_
         ·exact Nat.zero_le _
         ·exact Ent.refl _
         ·rintro ⟨i, a2, c2⟩ hi
          dsimp only at hi ⊢
          refine Qb (Qb (Qa (Qd rfl rfl (Qd rfl rfl (Q6 rfl rfl rfl (WpL.nil (Qm rfl (fun h5 => ?_) (fun h5 => ?_))))))))
          ·have hiw : i < w := by omega
           have hix : (y + k) * W + (x + i) < px.length := by omega
           have hol : (Xf px W x y w k ++ (px.drop ((y + k) * W + x)).take i).length ≤ 1001000 := by rw [List.length_append, hpk, List.length_take]; omega
           refine Wp.skip (Qb (Wp.block ?_))
           refine Qb (Qa ?_)
           refine Qz (vs := [_, _, _]) rfl rfl rfl (by rfl) ?_
           refine Qd rfl rfl (Qd rfl rfl (QE rfl rfl rfl (Qt (by omega) (by omega)) ?_))
           refine Qd rfl rfl (Qd rfl rfl (QE rfl rfl rfl (Qt (by omega) (by omega)) ?_))
           refine Qg rfl rfl (by repeat' constructor) (rAt_spec A0 W H px a c hA hW hH (x + i) (y + k) (by omega) (by omega) hix) ?_
           rintro _ _ ⟨rfl, rfl⟩
           simp only [Qr]
           refine Qd rfl rfl (QC rfl rfl rfl (QC rfl rfl rfl (Qe rfl rfl (Qe rfl rfl (WpL.nil (Qa (Qj (o2 := 2) rfl rfl rfl (Qo rfl rfl (by rfl) ?_))))))))
           refine Qd rfl rfl ?_
           refine Y4 rfl rfl rfl rfl ?_
           intro g4
           refine X9 rfl rfl rfl (by repeat' constructor) (by rfl) (by rfl) (by rfl) (by rfl) (by omega) (by omega) ?_
           intro a87 c87
           rw [Zw, show (Xf px W x y w k ++ (px.drop ((y + k) * W + x)).take i) ++ [px[(y + k) * W + (x + i)]] = (Xf px W x y w k ++ (px.drop ((y + k) * W + x)).take (i + 1)) by rw [List.append_assoc, sub_snoc hix], show (Xf px W x y w k ++ (px.drop ((y + k) * W + x)).take i).length + 1 = (Xf px W x y w k ++ (px.drop ((y + k) * W + x)).take (i + 1)).length by rw [← sub_snoc hix, ← List.append_assoc, List.length_append (bs := [_])]; rfl]
           refine Qj (o2 := 2) rfl rfl rfl (Q0 rfl rfl rfl (WpL.nil (Qa (Qd rfl rfl (QE rfl rfl rfl (Qt (by omega) (by omega)) ?_)))))
           refine Qe rfl rfl (WpL.nil (Qy (⟨i + 1, a87, c87⟩ : AsX) ?_ ?_ (by ((repeat (first | exact Top.refl | refine Top.push rfl ?_)); done)) (by repeat (first | exact FrLe.nil | refine FrLe.cons rfl ?_)) ?_))
           ·simp only; omega
           ·simp only; omega
           ·exact Take.ent' (by repeat' constructor)
          ·have hiE : i = w := by omega
           rw [hiE, show (Xf px W x y w k ++ (px.drop ((y + k) * W + x)).take w) = (Xf px W x y w (k + 1)) from rfl]
           refine QL (Qa (Qd rfl rfl (QE rfl rfl rfl (Qt (by omega) (by omega)) ?_)))
           refine Qe rfl rfl (WpL.nil (Qy (⟨k + 1, a2, c2⟩ : AsX) ?_ ?_ (by ((repeat (first | exact Top.refl | refine Top.push rfl ?_)); done)) (by repeat (first | exact FrLe.nil | refine FrLe.cons rfl ?_)) ?_))
           ·simp only; omega
           ·simp only; omega
           ·exact Ent.refl _
        ·obtain rfl : k = h := by omega
         refine QL (Qb (Qa ?_))
         refine Qz (vs := [_, _, _]) rfl rfl rfl (by rfl) ?_
         refine QY rfl rfl rfl (by rfl) rfl ?_
         refine Qe rfl rfl (WpL.nil (Qh ?_))
         apply RetQ.mk
         ·exact (Xl rfl rfl (by rfl) rfl)
         ·exact .inl ⟨hin, a1, c1, rfl, rfl⟩
         ·exact Take.ent' (by repeat' constructor)
     ·have hg6 := of_decide_eq_true hg6
      refine Qc rfl rfl rfl (by decide) (Qc rfl rfl rfl (by decide) (Qc rfl rfl rfl (by decide) (Qc rfl rfl rfl (by decide) (Qc rfl rfl rfl (by decide) (Qx rfl rfl rfl (WpL.nil (XG rfl (Qb (Qa ?_)))))))))
      refine XN rfl rfl ?_
      refine QY rfl rfl rfl (by rfl) rfl ?_
      refine Qe rfl rfl (WpL.nil (Qh ?_))
      apply RetQ.mk
      ·exact (Xl rfl rfl (by rfl) rfl)
      ·exact .inr ⟨by unfold Yy; omega, rfl, rfl⟩
      ·exact Take.ent' (by repeat' constructor)
   ·have hg5 := of_decide_eq_true hg5
    refine Qc rfl rfl rfl (by decide) (Qc rfl rfl rfl (by decide) (Qc rfl rfl rfl (by decide) (Qx rfl rfl rfl (WpL.nil (XG rfl (Qb (Qa ?_)))))))
    refine XN rfl rfl ?_
    refine QY rfl rfl rfl (by rfl) rfl ?_
    refine Qe rfl rfl (WpL.nil (Qh ?_))
    apply RetQ.mk
    ·exact (Xl rfl rfl (by rfl) rfl)
    ·exact .inr ⟨by unfold Yy; omega, rfl, rfl⟩
    ·exact Take.ent' (by repeat' constructor)
  ·have hg4 := of_decide_eq_true hg4
   refine Qc rfl rfl rfl (by decide) (Qc rfl rfl rfl (by decide) (Qc rfl rfl rfl (by decide) (Qx rfl rfl rfl (Qd rfl rfl (Qc rfl rfl rfl (by decide) (Qc rfl rfl rfl (by decide) (Qc rfl rfl rfl (by decide) (Qc rfl rfl rfl (by decide) (Qx rfl rfl rfl (WpL.nil (XG rfl (Qb ?_))))))))))))
   refine Qa ?_
   refine XN rfl rfl ?_
   refine QY rfl rfl rfl (by rfl) rfl ?_
   refine Qe rfl rfl (WpL.nil (Qh ?_))
   apply RetQ.mk
   ·exact (Xl rfl rfl (by rfl) rfl)
   ·exact .inr ⟨by unfold Yy; omega, rfl, rfl⟩
   ·exact Take.ent' (by repeat' constructor)
 ·have hg3 := of_decide_eq_true hg3
  refine Qc rfl rfl rfl (by decide) (Qx rfl rfl rfl (Qd rfl rfl (Qc rfl rfl rfl (by decide) (Qc rfl rfl rfl (by decide) (Qc rfl rfl rfl (by decide) (Qc rfl rfl rfl (by decide) (Qx rfl rfl rfl (Qd rfl rfl (Qc rfl rfl rfl (by decide) (Qc rfl rfl rfl (by decide) (Qc rfl rfl rfl (by decide) (Qc rfl rfl rfl (by decide) ?_))))))))))))
  refine Qx rfl rfl rfl (WpL.nil (XG rfl (Qb (Qa ?_))))
  refine XN rfl rfl ?_
  refine QY rfl rfl rfl (by rfl) rfl ?_
  refine Qe rfl rfl (WpL.nil (Qh ?_))
  apply RetQ.mk
  ·exact (Xl rfl rfl (by rfl) rfl)
  ·exact .inr ⟨by unfold Yy; omega, rfl, rfl⟩
  ·exact Take.ent' (by repeat' constructor)

end Go.Proofs.YtggamdlpiejbiaaGreat
namespace Go.Proofs.YtggamdlpiejbiaaGreat
open Go.RowKit Go.Shelf

theorem rHas03_spec (A0 : HP) (W H w h : Nat) (px qx : List Int) (a b : Option Addr) (c d : Nat) (hA : RdsL [A0] a (Q5 px)) (hB : RdsL [A0] b (Q5 qx)) (hW : W ≤ 1000) (hH : H ≤ 1000) (hw : w ≤ 1000) (hh : h ≤ 1000) (hl : px.length = W * H) (_hq : qx.length = w * h) (_hc : px.length ≤ c) (_hd : qx.length ≤ d) (x y : Nat) (hx : x ≤ 1000) (hy : y ≤ 1000) : Fn Tryz.prog 151 #[.agg #[.int .i64 (W : Int), .int .i64 (H : Int), .slice a px.length c], .agg #[.int .i64 (w : Int), .int .i64 (h : Int), .slice b qx.length d], .int .i64 (x : Int), .int .i64 (y : Int)] [A0] (fun v l => v = .bool (Q7 px W H qx w h x y) ∧ l = [A0]) := by
 have hWH : W * H ≤ 1000 * 1000 := Nat.mul_le_mul hW hH
 have hwh : w * h ≤ 1000 * 1000 := Nat.mul_le_mul hw hh
 refine Qk (vs := [.agg #[.int .i64 (W : Int), .int .i64 (H : Int), .slice a px.length c], .agg #[.int .i64 (w : Int), .int .i64 (h : Int), .slice b qx.length d], .int .i64 (x : Int), .int .i64 (y : Int)]) Tryz.func151 rfl Tryz.ntmps151 rfl (Qb (Qa (QP rfl rfl rfl ?_)))
 intro gM
 refine QP rfl rfl rfl ?_
 intro gO
 refine Qe rfl rfl (WpL.nil (Qb (Qa ?_)))
 refine Qz (vs := [_, _, _]) rfl rfl rfl (by rfl) ?_
 refine Qd rfl rfl (Qd rfl rfl (Qj (o2 := 0) rfl rfl rfl (Qo rfl rfl (by rfl) ?_)))
 refine Qj (o2 := 1) rfl rfl rfl (Qo rfl rfl (by rfl) ?_)
 refine Qg rfl rfl (by repeat' constructor) (rSub_spec A0 W H px a c hA hW hH hl x y w h hx hy hw hh) ?_
 intro v0 m0 hN0
 rcases hN0 with ⟨hin, aS, cS, rfl, rfl⟩ | ⟨hin, rfl, rfl⟩
 ·simp only [Qr]
  have hpl := Zv hl hin h (Nat.le_refl _)
  have hhw : h * w ≤ 1000 * 1000 := Nat.mul_le_mul hh hw
  refine Qd rfl rfl (QC rfl rfl rfl (QC rfl rfl rfl (XK rfl ?_)))
  intro g3
  refine QY rfl rfl rfl (by rfl) rfl ?_
  refine Qe rfl rfl (WpL.nil (Qb (Qa (Qd rfl rfl (Qd rfl rfl (Qv (dj := 23) rfl rfl ?_))))))
  refine Qf rfl rfl ?_
  refine Qz (vs := [_, _, _]) rfl rfl rfl (by rfl) ?_
  refine Qf rfl rfl ?_
  refine Qz (vs := [_, _, _]) rfl rfl rfl (by rfl) ?_
  refine Qf rfl rfl (Qg rfl rfl (by repeat' constructor) (rSame03_spec [QG 92 1 aS cS (Xf px W x y w h).length (Q5 (Xf px W x y w h)), A0] (⟨0, 0, (w : Int), (h : Int), (Xf px W x y w h)⟩ : Img) (⟨0, 0, (w : Int), (h : Int), qx⟩ : Img) aS b cS d QI.head hB.tail (by simp only; omega)) ?_)
  rintro _ _ ⟨rfl, rfl⟩
  simp only [Qr]
  refine Qx rfl rfl rfl (Qe rfl rfl (WpL.nil (Qh ?_)))
  apply RetQ.mk
  ·exact (Res.one rfl rfl)
  ·exact ⟨congrArg Value.bool (decide_eq_decide.2 ⟨fun q => ⟨hin, q.2.2⟩, fun q => ⟨trivial, trivial, q.2⟩⟩), rfl⟩
  ·exact Take.ent' (by repeat' constructor)
 ·simp only [Qr]
  refine Qd rfl rfl (QC rfl rfl rfl (QC rfl rfl rfl (XK rfl ?_)))
  intro g4
  refine QY rfl rfl rfl (by rfl) rfl ?_
  refine Qe rfl rfl (WpL.nil (Qb (Qa (Qd rfl rfl (Qd rfl rfl (Qu (dj := 23) rfl rfl ?_))))))
  refine Qc rfl rfl rfl (by decide) (Qc rfl rfl rfl (by decide) (Qc rfl rfl rfl (by decide) (Qq rfl rfl rfl (Qe rfl rfl (WpL.nil (Qh ?_))))))
  apply RetQ.mk
  ·exact (Res.one rfl rfl)
  ·exact ⟨congrArg Value.bool (decide_eq_false fun q => hin q.1).symm, rfl⟩
  ·exact Take.ent' (by repeat' constructor)

theorem rFind03_spec (A0 : HP) (W H w h : Nat) (px qx : List Int) (a b : Option Addr) (c d : Nat) (hA : RdsL [A0] a (Q5 px)) (hB : RdsL [A0] b (Q5 qx)) (hW : W ≤ 1000) (hH : H ≤ 1000) (hw : w ≤ 1000) (hh : h ≤ 1000) (hl : px.length = W * H) (hq : qx.length = w * h) (hc : px.length ≤ c) (hd : qx.length ≤ d) : Fn Tryz.prog 95 #[.agg #[.int .i64 (W : Int), .int .i64 (H : Int), .slice a px.length c], .agg #[.int .i64 (w : Int), .int .i64 (h : Int), .slice b qx.length d]] [A0] (fun v l => ∃ a' c', v = .slice a' (Xa (Q7 px W H qx w h) W H).length c' ∧ l = [QG 106 2 a' c' (Xa (Q7 px W H qx w h) W H).length ((Xa (Q7 px W H qx w h) W H).flatMap plC), A0]) := by
 refine Qk (vs := [.agg #[.int .i64 (W : Int), .int .i64 (H : Int), .slice a px.length c], .agg #[.int .i64 (w : Int), .int .i64 (h : Int), .slice b qx.length d]]) Tryz.func95 rfl Tryz.ntmps95 rfl (Qb (Qa (QP rfl rfl rfl ?_)))
 intro gM
 refine QP rfl rfl rfl ?_
 intro gO
 refine Qe rfl rfl (WpL.nil (Qb (Qa (Qe rfl rfl (WpL.nil (Qb (Qb (Qa (Qe rfl rfl (WpL.nil (Wp.block ?_)))))))))))
 refine Wp.loopD (σ := AsX) (fun x => x.k ≤ H) [5, 6, 7, 8, 9, 10, 11, 12, 13, 14, 15, 16, 17, 18, 19, 20, 21, 22, 23, 24, 25, 26, 27, 28, 29, 30] (fun x => [(6, .int .i64 (x.k : Int)), (5, .slice x.a (Xa (Q7 px W H qx w h) W x.k).length x.c)]) (fun x => [QG 106 2 x.a x.c (Xa (Q7 px W H qx w h) W x.k).length ((Xa (Q7 px W H qx w h) W x.k).flatMap plC), QB gO [.int .i64 (w : Int), .int .i64 (h : Int), .slice b qx.length d] 69, QB gM [.int .i64 (W : Int), .int .i64 (H : Int), .slice a px.length c] 69, A0]) (fun x => H - x.k) ⟨0, none, 0⟩ ?_ (by repeat (first | exact FrLe.nil | refine FrLe.cons rfl ?_)) ?_ ?_
 ·exact Nat.zero_le _
 ·exact Ent.own_nil (Ent.refl _)
 ·rintro ⟨y, a1, c1⟩ hy
  dsimp only at hy ⊢
  refine Qb (Qb (Qa (Qd rfl rfl (Qj (o2 := 1) rfl rfl rfl (Qo rfl rfl (by rfl) ?_)))))
  refine Q6 rfl rfl rfl (WpL.nil (Qm rfl (fun h1 => ?_) (fun h1 => ?_)))
  ·have hyH : y < H := by omega
   refine Wp.skip (Qb (Wp.block ?_))
   refine Qb (Qa (Qe rfl rfl (WpL.nil (Wp.block ?_))))
   rw [show (Xa (Q7 px W H qx w h) W y) = (Xa (Q7 px W H qx w h) W y ++ Xp (Q7 px W H qx w h) y 0) from (List.append_nil _).symm]
   refine Wp.loopD (σ := AsX) (fun x => x.k ≤ W) [5, 7, 14, 15, 16, 17, 18, 19, 20, 21, 22, 23, 24, 25, 26, 27, 28, 29, 30] (fun x => [(7, .int .i64 (x.k : Int)), (5, .slice x.a (Xa (Q7 px W H qx w h) W y ++ Xp (Q7 px W H qx w h) y x.k).length x.c)]) (fun x => [QG 106 2 x.a x.c (Xa (Q7 px W H qx w h) W y ++ Xp (Q7 px W H qx w h) y x.k).length ((Xa (Q7 px W H qx w h) W y ++ Xp (Q7 px W H qx w h) y x.k).flatMap plC), QB gO [.int .i64 (w : Int), .int .i64 (h : Int), .slice b qx.length d] 69, QB gM [.int .i64 (W : Int), .int .i64 (H : Int), .slice a px.length c] 69, A0]) (fun x => W - x.k) ⟨0, a1, c1⟩ ?_ (by repeat (first | exact FrLe.nil | refine FrLe.cons rfl ?_)) ?_ ?_
   ·exact Nat.zero_le _
   ·exact Ent.refl _
   ·rintro ⟨n, a2, c2⟩ hn
    dsimp only at hn ⊢
    refine Qb (Qb (Qa (Qd rfl rfl (Qj (o2 := 0) rfl rfl rfl (Qo rfl rfl (by rfl) ?_)))))
    refine Q6 rfl rfl rfl (WpL.nil (Qm rfl (fun h3 => ?_) (fun h3 => ?_)))
    ·have hnW : n < W := by omega
     have hfy := findY_len (Q7 px W H qx w h) W y
     have hfx := findX_len (Q7 px W H qx w h) y n
     have hyW : y * W ≤ 1000 * 1000 := Nat.mul_le_mul (by omega) hW
     have hol : (Xa (Q7 px W H qx w h) W y ++ Xp (Q7 px W H qx w h) y n).length ≤ 1001000 := by rw [List.length_append]; omega
     refine Wp.skip (Qb (Wp.block ?_))
     refine Qb (Qa ?_)
     refine Qz (vs := [_, _, _]) rfl rfl rfl (by rfl) ?_
     refine Qz (vs := [_, _, _]) rfl rfl rfl (by rfl) ?_
     refine Qd rfl rfl (Qd rfl rfl (Qg rfl rfl (by repeat' constructor) (rHas03_spec A0 W H w h px qx a b c d hA hB hW hH hw hh hl hq hc hd n y (by omega) (by omega)) ?_))
     rintro _ _ ⟨rfl, rfl⟩
     simp only [Qr]
     refine WpL.nil (XC rfl (fun h4 => ?_) (fun h4 => ?_))
     ·refine Qa (Qd rfl rfl (Qd rfl rfl (Qd rfl rfl ?_)))
      refine XN rfl rfl ?_
      refine s_bsA1 rfl rfl (by rfl) (by rfl) (by rfl) (by rfl) ?_
      intro g3
      refine X9 rfl rfl rfl (by repeat' constructor) (by rfl) (by rfl) (by rfl) (by rfl) (by omega) (by omega) ?_
      intro a37 c37
      rw [show [Value.int .i64 (n : Int), .int .i64 (y : Int)] = plC ((n : Int), (y : Int)) from rfl, show (Xa (Q7 px W H qx w h) W y ++ Xp (Q7 px W H qx w h) y n).flatMap plC ++ plC ((n : Int), (y : Int)) = (Xa (Q7 px W H qx w h) W y ++ Xp (Q7 px W H qx w h) y (n + 1)).flatMap plC by rw [Xp, if_pos h4]; simp [List.flatMap_append], show (Xa (Q7 px W H qx w h) W y ++ Xp (Q7 px W H qx w h) y n).length + 1 = (Xa (Q7 px W H qx w h) W y ++ Xp (Q7 px W H qx w h) y (n + 1)).length by rw [Xp, if_pos h4, ← List.append_assoc, List.length_append (bs := [_])]; rfl]
      refine Qe rfl rfl (WpL.nil (Qa (Qd rfl rfl (QE rfl rfl rfl (Qt (by omega) (by omega)) ?_))))
      refine Qe rfl rfl (WpL.nil (Qy (⟨n + 1, a37, c37⟩ : AsX) ?_ ?_ (by ((repeat (first | exact Top.refl | refine Top.push rfl ?_)); done)) (by repeat (first | exact FrLe.nil | refine FrLe.cons rfl ?_)) ?_))
      ·simp only; omega
      ·simp only; omega
      ·exact Take.ent' (by repeat' constructor)
     ·rw [show (Xa (Q7 px W H qx w h) W y ++ Xp (Q7 px W H qx w h) y n) = (Xa (Q7 px W H qx w h) W y ++ Xp (Q7 px W H qx w h) y (n + 1)) by rw [Xp, if_neg (by rw [h4]; decide), List.append_nil]]
      refine Wp.skip (Qa (Qd rfl rfl (QE rfl rfl rfl (Qt (by omega) (by omega)) ?_)))
      refine Qe rfl rfl (WpL.nil (Qy (⟨n + 1, a2, c2⟩ : AsX) ?_ ?_ (by ((repeat (first | exact Top.refl | refine Top.push rfl ?_)); done)) (by repeat (first | exact FrLe.nil | refine FrLe.cons rfl ?_)) ?_))
      ·simp only; omega
      ·simp only; omega
      ·exact Take.ent' (by repeat' constructor)
    ·have hnE : n = W := by omega
     rw [hnE, show (Xa (Q7 px W H qx w h) W y ++ Xp (Q7 px W H qx w h) y W) = (Xa (Q7 px W H qx w h) W (y + 1)) from rfl]
     refine QL (Qa (Qd rfl rfl (QE rfl rfl rfl (Qt (by omega) (by omega)) ?_)))
     refine Qe rfl rfl (WpL.nil (Qy (⟨y + 1, a2, c2⟩ : AsX) ?_ ?_ (by ((repeat (first | exact Top.refl | refine Top.push rfl ?_)); done)) (by repeat (first | exact FrLe.nil | refine FrLe.cons rfl ?_)) ?_))
     ·simp only; omega
     ·simp only; omega
     ·exact Ent.refl _
  ·obtain rfl : y = H := by omega
   refine QL (Qb (Qa (Qd rfl rfl (Qe rfl rfl (WpL.nil (Qh ?_))))))
   apply RetQ.mk
   ·exact (Res.one rfl rfl)
   ·exact ⟨a1, c1, rfl, rfl⟩
   ·exact Take.ent' (by repeat' constructor)


/-- Where an image is in another one. -/
def igF (C M C2 M2 : Int) (px : List Int) (W H : Nat) (qx : List Int) (w h : Nat) : List (Int × Int) := if [C, M] ≠ [C2, M2] then [] else Xa (Q7 px W H qx w h) W H
theorem iFind_spec (A0 : HP) (W H w h : Nat) (px qx : List Int) (a b : Option Addr) (c d : Nat) (hA : RdsL [A0] a (Q5 px)) (hB : RdsL [A0] b (Q5 qx)) (hW : W ≤ 1000) (hH : H ≤ 1000) (hw : w ≤ 1000) (hh : h ≤ 1000) (hl : px.length = W * H) (hq : qx.length = w * h) (hc : px.length ≤ c) (hd : qx.length ≤ d) (C M C2 M2 : Int) : Fn Tryz.prog 51 #[.agg #[.int .i64 C, .int .i64 M, .int .i64 (W : Int), .int .i64 (H : Int), .slice a px.length c], .agg #[.int .i64 C2, .int .i64 M2, .int .i64 (w : Int), .int .i64 (h : Int), .slice b qx.length d]] [A0] (fun v l => ∃ a' c', v = .slice a' (igF C M C2 M2 px W H qx w h).length c' ∧ l = [QG 106 2 a' c' (igF C M C2 M2 px W H qx w h).length ((igF C M C2 M2 px W H qx w h).flatMap plC), A0]) := by
 refine Qk (vs := [.agg #[.int .i64 C, .int .i64 M, .int .i64 (W : Int), .int .i64 (H : Int), .slice a px.length c], .agg #[.int .i64 C2, .int .i64 M2, .int .i64 (w : Int), .int .i64 (h : Int), .slice b qx.length d]]) Tryz.func51 rfl Tryz.ntmps51 rfl (Qb (Qa (QP rfl rfl rfl ?_)))
 intro g1
 refine QP rfl rfl rfl ?_
 intro g2
 refine Qe rfl rfl (WpL.nil (Qb (Qb (Qa (Qj (o2 := 0) rfl rfl rfl ?_)))))
 refine Qz (vs := [_, _]) rfl rfl rfl (by rfl) ?_
 refine Qj (o2 := 0) rfl rfl rfl ?_
 refine Qz (vs := [_, _]) rfl rfl rfl (by rfl) ?_
 refine s_ane [C, M] [C2, M2] rfl rfl rfl rfl rfl (WpL.nil (Qm rfl (fun h0 => ?_) (fun h0 => ?_)))
 ·refine Qb (Qa (Qe rfl rfl (WpL.nil (Qh ?_))))
  apply RetQ.mk
  ·exact (Res.one rfl rfl)
  ·exact ⟨none, 0, by rw [igF, if_pos h0]; rfl, rfl⟩
  ·rw [igF, if_pos h0]
   exact Ent.own_nil (Take.ent' (by repeat' constructor))
 ·refine Wp.skip (Qb (Qa (Qj (o2 := 2) rfl rfl rfl ?_)))
  refine Qz (vs := [_, _, _]) rfl rfl rfl (by rfl) ?_
  refine Qj (o2 := 2) rfl rfl rfl ?_
  refine Qz (vs := [_, _, _]) rfl rfl rfl (by rfl) ?_
  refine Qg rfl rfl (by repeat' constructor) (rcFind_spec A0 W H w h px qx a b c d hA hB hW hH hw hh hl hq hc hd) ?_
  rintro _ _ ⟨aF, cF, rfl, rfl⟩
  simp only [Qr]
  refine Qe rfl rfl (WpL.nil (Qh ?_))
  apply RetQ.mk
  ·exact (Res.one rfl rfl)
  ·exact ⟨aF, cF, by rw [igF, if_neg h0], rfl⟩
  ·rw [igF, if_neg h0]
   exact Take.ent' (by repeat' constructor)

theorem rFind10_spec (A0 : HP) (W H w h : Nat) (px qx : List Int) (a b : Option Addr) (c d : Nat) (hA : RdsL [A0] a (Q5 px)) (hB : RdsL [A0] b (Q5 qx)) (hW : W ≤ 1000) (hH : H ≤ 1000) (hw : w ≤ 1000) (hh : h ≤ 1000) (hl : px.length = W * H) (hq : qx.length = w * h) (hc : px.length ≤ c) (hd : qx.length ≤ d) (C M C2 M2 : Int) : Fn Tryz.prog 52 #[.agg #[.int .i64 C, .int .i64 M, .int .i64 (W : Int), .int .i64 (H : Int), .slice a px.length c], .agg #[.int .i64 C2, .int .i64 M2, .int .i64 (w : Int), .int .i64 (h : Int), .slice b qx.length d]] [A0] (fun v l => ∃ a' c', v = .slice a' (igF C M C2 M2 px W H qx w h).length c' ∧ l = [QG 106 2 a' c' (igF C M C2 M2 px W H qx w h).length ((igF C M C2 M2 px W H qx w h).flatMap plC), A0]) := by
 refine Qk (vs := [.agg #[.int .i64 C, .int .i64 M, .int .i64 (W : Int), .int .i64 (H : Int), .slice a px.length c], .agg #[.int .i64 C2, .int .i64 M2, .int .i64 (w : Int), .int .i64 (h : Int), .slice b qx.length d]]) Tryz.func52 rfl Tryz.ntmps52 rfl (Qb (Qa (QP rfl rfl rfl ?_)))
 intro g1
 refine QP rfl rfl rfl ?_
 intro g2
 refine Qe rfl rfl (WpL.nil (Qb (Qb (Qa (Qj (o2 := 0) rfl rfl rfl ?_)))))
 refine Qz (vs := [_, _]) rfl rfl rfl (by rfl) ?_
 refine Qj (o2 := 0) rfl rfl rfl ?_
 refine Qz (vs := [_, _]) rfl rfl rfl (by rfl) ?_
 refine s_ane [C, M] [C2, M2] rfl rfl rfl rfl rfl (WpL.nil (Qm rfl (fun h0 => ?_) (fun h0 => ?_)))
 ·refine Qb (Qa (Qe rfl rfl (WpL.nil (Qh ?_))))
  apply RetQ.mk
  ·exact (Res.one rfl rfl)
  ·exact ⟨none, 0, by rw [igF, if_pos h0]; rfl, rfl⟩
  ·rw [igF, if_pos h0]
   exact Ent.own_nil (Take.ent' (by repeat' constructor))
 ·refine Wp.skip (Qb (Qa (Qj (o2 := 2) rfl rfl rfl ?_)))
  refine Qz (vs := [_, _, _]) rfl rfl rfl (by rfl) ?_
  refine Qj (o2 := 2) rfl rfl rfl ?_
  refine Qz (vs := [_, _, _]) rfl rfl rfl (by rfl) ?_
  refine Qg rfl rfl (by repeat' constructor) (rFind03_spec A0 W H w h px qx a b c d hA hB hW hH hw hh hl hq hc hd) ?_
  rintro _ _ ⟨aF, cF, rfl, rfl⟩
  simp only [Qr]
  refine Qe rfl rfl (WpL.nil (Qh ?_))
  apply RetQ.mk
  ·exact (Res.one rfl rfl)
  ·exact ⟨aF, cF, by rw [igF, if_neg h0], rfl⟩
  ·rw [igF, if_neg h0]
   exact Take.ent' (by repeat' constructor)

end Go.Proofs.YtggamdlpiejbiaaGreat
namespace Go.Proofs.YtggamdlpiejbiaaGreat
open Go.RowKit Go.Shelf


section
variable {P : Program} {n : Cx} {D : List Deferred} {ops : Array Oper} {rest : List Oper} {Q : Post} {fr : Fr} {l : List HP} {ty : Nat} {pos : String} {aft : Array Edge}
end
/-- Where an image is in another one, of images. -/
def igX (x y : Img) : List (Int × Int) := igF x.c x.m y.c y.m x.px x.w.toNat x.h.toNat y.px y.w.toNat y.h.toNat
theorem good_le {a b : Int} {m : Img} (h : YH a m) (hab : a ≤ b) : YH b m := ⟨h.1, h.2.1, ⟨h.2.2.1.1, by have := h.2.2.1.2; omega⟩, ⟨h.2.2.2.1.1, by have := h.2.2.2.1.2; omega⟩, h.2.2.2.2⟩


theorem iFindX_spec (A0 : HP) (x y : Img) (a b : Option Addr) (c d : Nat) (hA : RdsL [A0] a (Q5 x.px)) (hB : RdsL [A0] b (Q5 y.px)) (hgx : YH 100 x) (hgy : YH 100 y) (hc : x.px.length ≤ c) (hd : y.px.length ≤ d) : Fn Tryz.prog 51 #[.agg (mC x a c).toArray, .agg (mC y b d).toArray] [A0] (fun v l => ∃ a' c', v = .slice a' (igX x y).length c' ∧ l = [QG 106 2 a' c' (igX x y).length ((igX x y).flatMap plC), A0]) := by
  obtain ⟨C, M, W, H, px⟩ := x
  obtain ⟨C2, M2, w, h, qx⟩ := y
  obtain ⟨_, _, hw1, hh1, hl1, _⟩ := hgx
  obtain ⟨_, _, hw2, hh2, hl2, _⟩ := hgy
  dsimp only at hA hB hc hd hw1 hh1 hl1 hw2 hh2 hl2
  obtain ⟨W, rfl⟩ := Int.eq_ofNat_of_zero_le (show 0 ≤ W by omega)
  obtain ⟨H, rfl⟩ := Int.eq_ofNat_of_zero_le (show 0 ≤ H by omega)
  obtain ⟨w, rfl⟩ := Int.eq_ofNat_of_zero_le (show 0 ≤ w by omega)
  obtain ⟨h, rfl⟩ := Int.eq_ofNat_of_zero_le (show 0 ≤ h by omega)
  exact iFind_spec A0 W H w h px qx a b c d hA hB (by omega) (by omega) (by omega) (by omega) (by exact_mod_cast hl1) (by exact_mod_cast hl2) hc hd C M C2 M2


theorem rFind10X_spec (A0 : HP) (x y : Img) (a b : Option Addr) (c d : Nat) (hA : RdsL [A0] a (Q5 x.px)) (hB : RdsL [A0] b (Q5 y.px)) (hgx : YH 100 x) (hgy : YH 100 y) (hc : x.px.length ≤ c) (hd : y.px.length ≤ d) : Fn Tryz.prog 52 #[.agg (mC x a c).toArray, .agg (mC y b d).toArray] [A0] (fun v l => ∃ a' c', v = .slice a' (igX x y).length c' ∧ l = [QG 106 2 a' c' (igX x y).length ((igX x y).flatMap plC), A0]) := by
  obtain ⟨C, M, W, H, px⟩ := x
  obtain ⟨C2, M2, w, h, qx⟩ := y
  obtain ⟨_, _, hw1, hh1, hl1, _⟩ := hgx
  obtain ⟨_, _, hw2, hh2, hl2, _⟩ := hgy
  dsimp only at hA hB hc hd hw1 hh1 hl1 hw2 hh2 hl2
  obtain ⟨W, rfl⟩ := Int.eq_ofNat_of_zero_le (show 0 ≤ W by omega)
  obtain ⟨H, rfl⟩ := Int.eq_ofNat_of_zero_le (show 0 ≤ H by omega)
  obtain ⟨w, rfl⟩ := Int.eq_ofNat_of_zero_le (show 0 ≤ w by omega)
  obtain ⟨h, rfl⟩ := Int.eq_ofNat_of_zero_le (show 0 ≤ h by omega)
  exact rFind10_spec A0 W H w h px qx a b c d hA hB (by omega) (by omega) (by omega) (by omega) (by exact_mod_cast hl1) (by exact_mod_cast hl2) hc hd C M C2 M2

end Go.Proofs.YtggamdlpiejbiaaGreat
namespace Go.Proofs.YtggamdlpiejbiaaGreat
open Go.RowKit Go.Shelf


theorem WpL.rds {P : Program} {n : Cx} {D : List Deferred} {ops : Array Oper} {rest : List Oper} {Q : Post} {fr : Fr} {l As : List HP} {a : Option Addr} {xs : List Value} (hA : RdsL As a xs) (he : Ent l As) (k : (a = none → xs = []) → WpL P n D ops rest Q fr l) : WpL P n D ops rest Q fr l := fun A w U hh hs => by
  refine k (fun ha => ?_) A w U hh hs
  subst ha
  have q := (hA w U (he w U hs)).1
  cases xs with
  | nil => rfl
  | cons x xs => exact absurd (q (by simp)) (by simp)

theorem pClone_spec (A0 : HP) (a : Option Addr) (c : Nat) (xs : List Int) (hA : RdsL [A0] a (Q5 xs)) (hl : xs.length ≤ 1000000000) : Fn Tryz.prog 96 #[.slice a xs.length c] [A0] (fun v l => ∃ a' c', v = .slice a' xs.length c' ∧ l = [QG 92 1 a' c' xs.length (Q5 xs), A0]) := by
 refine Qk (vs := [.slice a xs.length c]) Tryz.func96 rfl Tryz.ntmps96 rfl (Qb (Qa (Qe rfl rfl (WpL.nil (Qb (Qb (Qa (WpL.rds hA (by exact Take.ent' (by repeat' constructor)) (fun hnil => ?_)))))))))
 refine Qd rfl rfl (s_sleq rfl Tryz.underlying49 rfl rfl (WpL.nil (XC rfl (fun h0 => ?_) (fun h0 => ?_))))
 ·have hxn : xs = [] := List.length_eq_zero_iff.1 (by rw [← Xt, hnil (by simpa using h0)]; rfl)
  subst hxn
  refine Qb (Qa (Qe rfl rfl (WpL.nil (Qh ?_))))
  apply RetQ.mk
  ·exact (Res.one rfl rfl)
  ·exact ⟨none, 0, rfl, rfl⟩
  ·exact Ent.own_nil (Ent.refl _)
 ·refine Wp.skip (Qb (Qa ?_))
  refine s_bs (os := []) [] rfl rfl rfl (by simp) (by simp) (fun _ _ => rfl) ?_
  intro g5
  refine Qd rfl rfl (WpL.ent (Zy (T := 92) (s := 1) (m := 0) rfl (by decide)) ?_)
  refine s_appR (xs := []) (m2 := xs.length) rfl rfl rfl (by repeat' constructor) hA (by exact Take.ent' (by repeat' constructor)) (by rw [Xt, Nat.mul_one]) (by rfl) (by rfl) (pxs_one _) (by omega) (by omega) ?_
  intro a7 c7
  rw [List.nil_append, Nat.zero_add]
  refine Qe rfl rfl (WpL.nil (Qh ?_))
  apply RetQ.mk
  ·exact (Res.one rfl rfl)
  ·exact ⟨a7, c7, rfl, rfl⟩
  ·exact Ent.refl _

theorem iClone_spec (A0 : HP) (a : Option Addr) (c : Nat) (xs : List Int) (hA : RdsL [A0] a (QU xs)) (hl : xs.length ≤ 1000000000) : Fn Tryz.prog 185 #[.slice a xs.length c] [A0] (fun v l => ∃ a' c', v = .slice a' xs.length c' ∧ l = [QG 3 1 a' c' xs.length (QU xs), A0]) := by
 refine Qk (vs := [.slice a xs.length c]) Tryz.func185 rfl Tryz.ntmps185 rfl (Qb (Qa (Qe rfl rfl (WpL.nil (Qb (Qb (Qa (WpL.rds hA (by exact Take.ent' (by repeat' constructor)) (fun hnil => ?_)))))))))
 refine Qd rfl rfl (s_sleq rfl Tryz.underlying26 rfl rfl (WpL.nil (XC rfl (fun h0 => ?_) (fun h0 => ?_))))
 ·have hxn : xs = [] := List.length_eq_zero_iff.1 (by rw [← QX, hnil (by simpa using h0)]; rfl)
  subst hxn
  refine Qb (Qa (Qe rfl rfl (WpL.nil (Qh ?_))))
  apply RetQ.mk
  ·exact (Res.one rfl rfl)
  ·exact ⟨none, 0, rfl, rfl⟩
  ·exact Ent.own_nil (Ent.refl _)
 ·refine Wp.skip (Qb (Qa ?_))
  refine s_bs (os := []) [] rfl rfl rfl (by simp) (by simp) (fun _ _ => rfl) ?_
  intro g5
  refine Qd rfl rfl (WpL.ent (Zy (T := 3) (s := 1) (m := 0) rfl (by decide)) ?_)
  refine s_appR (xs := []) (m2 := xs.length) rfl rfl rfl (by repeat' constructor) hA (by exact Take.ent' (by repeat' constructor)) (by rw [QX, Nat.mul_one]) (by rfl) (by rfl) (ints_one _) (by omega) (by omega) ?_
  intro a7 c7
  rw [List.nil_append, Nat.zero_add]
  refine Qe rfl rfl (WpL.nil (Qh ?_))
  apply RetQ.mk
  ·exact (Res.one rfl rfl)
  ·exact ⟨a7, c7, rfl, rfl⟩
  ·exact Ent.refl _

end Go.Proofs.YtggamdlpiejbiaaGreat
namespace Go.Proofs.YtggamdlpiejbiaaGreat
open Go.RowKit Go.Shelf

theorem rUnpackW_spec (p : Int) (h0 : 0 ≤ p) (h1 : p < 18446744073709551616) : Fn Tryz.prog 99 #[.int .u64 p] [] (fun v l => ∃ a c, v = .slice a (Qp p).length c ∧ l = [QG 3 1 a c (Qp p).length (QU (Qp p))]) := by
 refine Qk (vs := [.int .u64 p]) Tryz.func99 rfl Tryz.ntmps99 rfl (Qb (Qa (Qe rfl rfl (WpL.nil (Qb (Qa (Qd rfl rfl (Y5 rfl rfl rfl (by omega) (by omega) (Zi (by omega) (by omega)) ?_))))))))
 refine Qe rfl rfl (WpL.nil (Qb (Qa (Qd rfl rfl (Y6 rfl rfl rfl (by omega) (by omega) ?_)))))
 refine Ya rfl Tryz.underlying92 rfl (Qt (by omega) (by omega)) ?_
 refine Qe rfl rfl (WpL.nil (Qb (Qb (Qa (Qd rfl rfl (QO rfl rfl rfl (WpL.nil (Qm rfl (fun h0 => ?_) (fun h0 => ?_)))))))))
 ·refine Qb (Qa (Qd rfl rfl (Y5 rfl rfl rfl (by omega) (by omega) (Qt (by omega) (by omega)) ?_)))
  refine Qd rfl rfl (Y5 rfl rfl rfl (by omega) (by omega) (Qt (by omega) (by omega)) ?_)
  refine Y6 rfl rfl rfl (by omega) (by omega) ?_
  refine Qd rfl rfl (Y6 rfl rfl rfl (by omega) (by omega) ?_)
  refine s_bs3 rfl rfl rfl rfl rfl rfl rfl rfl ?_
  intro gU
  refine Qe rfl rfl (WpL.nil (Qh ?_))
  have e : Qp p = [p % 281474976710656 / 4294967296, p % 281474976710656 / 65536 % 65536, p % 281474976710656 % 65536] := by rw [Qp, if_pos (by omega), show p / 4294967296 % 65536 = p % 281474976710656 / 4294967296 by omega, show p / 65536 % 65536 = p % 281474976710656 / 65536 % 65536 by omega, show p % 65536 = p % 281474976710656 % 65536 by omega]
  apply RetQ.mk
  ·exact (Res.one rfl rfl)
  ·exact ⟨some ⟨gU, 0, none⟩, 3, by rw [e]; rfl, rfl⟩
  ·rw [e]
   exact Yq rfl (by decide) (Take.ent' (by repeat' constructor))
 ·refine Wp.skip (Qb (Qb (Qa (Qd rfl rfl (QO rfl rfl rfl (Qd rfl rfl (QH rfl rfl rfl (fun hg1 => ?_) (fun hg1 => ?_))))))))
  ·have hg1 := of_decide_eq_true hg1
   refine Qd rfl rfl (Qf rfl rfl (Q6 rfl rfl rfl (Qx rfl rfl rfl (WpL.nil (Qm rfl (fun h1 => ?_) (fun h1 => ?_))))))
   ·refine Qb (Qa (Qd rfl rfl ?_))
    refine Y4 rfl rfl rfl rfl ?_
    intro gU
    refine Qe rfl rfl (WpL.nil (Qh ?_))
    have e : Qp p = [p % 281474976710656] := by rw [Qp, if_neg (by omega), if_pos (by omega), show p % 65536 = p % 281474976710656 by omega]
    apply RetQ.mk
    ·exact (Res.one rfl rfl)
    ·exact ⟨some ⟨gU, 0, none⟩, 1, by rw [e]; rfl, rfl⟩
    ·rw [e]
     exact Yq rfl (by decide) (Take.ent' (by repeat' constructor))
   ·refine Wp.skip (Qb (Qa (Qe rfl rfl (WpL.nil (Qh ?_)))))
    have e : Qp p = [] := by rw [Qp, if_neg (by omega), if_neg (by omega)]
    apply RetQ.mk
    ·exact (Res.one rfl rfl)
    ·exact ⟨none, 0, by rw [e]; rfl, rfl⟩
    ·rw [e]
     exact Ent.own_nil (Ent.nil _)
  ·have hg1 := of_decide_eq_false hg1
   refine Qc rfl rfl rfl (by decide) (Qq rfl rfl rfl (WpL.nil (QV rfl (Wp.skip (Qb (Qa (Qe rfl rfl (WpL.nil (Qh ?_)))))))))
   have e : Qp p = [] := by rw [Qp, if_neg (by omega), if_neg (by omega)]
   apply RetQ.mk
   ·exact (Res.one rfl rfl)
   ·exact ⟨none, 0, by rw [e]; rfl, rfl⟩
   ·rw [e]
    exact Ent.own_nil (Ent.nil _)


/-- Numbers of which the first k are turned. -/
def trn (M : Int) (xs : List Int) (k : Nat) : List Int := (xs.take k).map (M - ·) ++ xs.drop k
theorem trn_len {M : Int} {xs : List Int} {k : Nat} : (trn M xs k).length = xs.length := by simp [trn]; omega
theorem trn_0 {M : Int} {xs : List Int} : trn M xs 0 = xs := by simp [trn]
theorem trn_all {M : Int} {xs : List Int} : trn M xs xs.length = xs.map (M - ·) := by simp [trn]
theorem trn_get {M : Int} {xs : List Int} {k : Nat} (h : k < xs.length) : (QU (trn M xs k))[k]? = some (.int .i64 xs[k]) := by
  have hk : ((xs.take k).map (M - ·)).length = k := by simp; omega
  have q : (trn M xs k)[k]? = some xs[k] := by
    rw [trn, List.getElem?_append_right (by omega), hk, Nat.sub_self, List.getElem?_drop, Nat.add_zero, List.getElem?_eq_getElem h]
  simp [QU, q]
theorem trn_set {M : Int} {xs : List Int} {k : Nat} (h : k < xs.length) : (trn M xs k).set k (M - xs[k]) = trn M xs (k + 1) := by
  have hk : ((xs.take k).map (M - ·)).length = k := by simp; omega
  rw [trn, List.set_append_right _ _ (by omega), hk, Nat.sub_self, List.drop_eq_getElem_cons h, List.set_cons_zero, trn, List.take_succ_eq_append_getElem h, List.map_append]
  simp
/-- A pixel, dark for light. -/
def YA (M p : Int) : Int := (Xy ((Qp p).map (M - ·))).1
theorem unpack_bd {p : Int} : ∀ x ∈ Qp p, 0 ≤ x ∧ x ≤ 65535 := by
  unfold Qp
  split
  · intro x hx; simp only [List.mem_cons, List.not_mem_nil, or_false] at hx; omega
  · split
    · intro x hx; simp only [List.mem_cons, List.not_mem_nil, or_false] at hx; omega
    · intro x hx; cases hx
theorem unpack_len {p : Int} : (Qp p).length ≤ 3 := by
  unfold Qp
  split
  · exact Nat.le_refl _
  · split
    · simp
    · simp

theorem TurnF_spec (g : Nat) (C M x : Int) (hM : 0 ≤ M ∧ M ≤ 65535) (hx : 0 ≤ x ∧ x ≤ 65535) : Fn Tryz.prog 153 #[.int .i64 x, .pointer (some ⟨g, 0, none⟩)] [QB g [.int .i64 C, .int .i64 M] 48] (fun v l => v = .int .i64 (M - x) ∧ l = [QB g [.int .i64 C, .int .i64 M] 48]) := by
 refine Qk (vs := [.int .i64 x, .pointer (some ⟨g, 0, none⟩)]) Tryz.func153 rfl Tryz.ntmps153 rfl ?_
 refine Qb (Qa (Qe rfl rfl (WpL.nil (Qb (Qa (Qj (o2 := 1) rfl rfl rfl (Qo rfl rfl (by rfl) ?_)))))))
 refine Qd rfl rfl (Yz rfl rfl rfl (Qt (by omega) (by omega)) ?_)
 refine Qe rfl rfl (WpL.nil (Qh ?_))
 apply RetQ.mk
 ·exact (Res.one rfl rfl)
 ·exact ⟨rfl, rfl⟩
 ·exact Ent.refl _

theorem eachT_spec (g : Nat) (p C M : Int) (h0 : 0 ≤ p) (h1 : p < 18446744073709551616) (hM : 0 ≤ M ∧ M ≤ 65535) : Fn Tryz.prog 152 #[.int .u64 p, .func (.func 153) #[] #[.pointer (some ⟨g, 0, none⟩)]] [QB g [.int .i64 C, .int .i64 M] 48] (fun v l => v = .int .u64 (YA M p) ∧ l = [QB g [.int .i64 C, .int .i64 M] 48]) := by
 have hul := unpack_len (p := p)
 have hub := unpack_bd (p := p)
 refine Qk (vs := [.int .u64 p, .func (.func 153) #[] #[.pointer (some ⟨g, 0, none⟩)]]) Tryz.func152 rfl Tryz.ntmps152 rfl ?_
 refine Qb (Qa (Qe rfl rfl (WpL.nil (Qb (Qa (Qd rfl rfl (Qg rfl rfl (by repeat' constructor) (XI p h0 h1) ?_)))))))
 rintro _ _ ⟨A1, a1, c1, rfl, rfl, hA1, hn1⟩
 simp only [Qr]
 refine Qg rfl rfl (by repeat' constructor) (iClone_spec A1 a1 c1 (Qp p) hA1 (by omega)) ?_
 rintro _ _ ⟨a5, c5, rfl, rfl⟩
 simp only [Qr]
 refine Qe rfl rfl (WpL.nil (Qb (Qb (Qa (Qd rfl rfl (QK rfl rfl (Qd rfl rfl (WpL.nil (Wp.block ?_)))))))))
 refine Wp.loopD (σ := Nat) (fun k => k ≤ (Qp p).length) [6, 7, 15, 16, 17, 18, 19, 20, 21, 22, 23, 24, 25, 26] (fun k => [(15, .int .i64 (k : Int))]) (fun k => [QG 3 1 a5 c5 (Qp p).length (QU (trn M (Qp p) k)), QB g [.int .i64 C, .int .i64 M] 48]) (fun k => (Qp p).length - k) 0 ?_ (by repeat (first | exact FrLe.nil | refine FrLe.cons rfl ?_)) ?_ ?_
 ·exact Nat.zero_le _
 ·rw [trn_0]
  exact Take.ent' (by repeat' constructor)
 ·rintro k hk
  refine Qb (Qa (Q6 rfl rfl rfl (WpL.nil (Qb (Qm rfl (fun h1 => ?_) (fun h1 => ?_))))))
  ·have hkl : k < (Qp p).length := by omega
   have hxb := hub _ (List.getElem_mem hkl)
   refine Wp.skip (Qb (Wp.block ?_))
   refine Qb (Qa (Qd rfl rfl (Q3 k rfl rfl rfl (QI (T := 3) (s := 1) (a := a5) (c := c5) (m := (Qp p).length)) (by exact Take.ent' (by repeat' constructor)) rfl hkl (by rw [QX, trn_len]; exact hkl) ?_)))
   refine Xb rfl rfl (QI (T := 3) (s := 1) (a := a5) (c := c5) (m := (Qp p).length)) (by exact Take.ent' (by repeat' constructor)) (trn_get hkl) ?_
   refine Qe rfl rfl (Qe rfl rfl (WpL.nil (Qa (Qd rfl rfl (Qd rfl rfl (Qd rfl rfl (Qd rfl rfl (XU (u := []) (c := [.pointer (some ⟨g, 0, none⟩)]) rfl rfl rfl rfl (by repeat' constructor) (TurnF_spec g C M (Qp p)[k] hM hxb) ?_))))))))
   rintro _ _ ⟨rfl, rfl⟩
   simp only [Qr]
   refine Q3 k rfl rfl rfl (QI (T := 3) (s := 1) (a := a5) (c := c5) (m := (Qp p).length)) (by exact Take.ent' (by repeat' constructor)) rfl hkl (by rw [QX, trn_len]; exact hkl) ?_
   refine s_sto (a := a5) rfl rfl rfl (by repeat' constructor) (by rw [QX, trn_len]; exact hkl) ?_
   rw [ints_set, trn_set hkl]
   refine WpL.nil (Qa (QE rfl rfl rfl (Qt (by omega) (by omega)) ?_))
   refine Qd rfl rfl (WpL.nil (Qy (k + 1) ?_ ?_ (by ((repeat (first | exact Top.refl | refine Top.push rfl ?_)); done)) (by repeat (first | exact FrLe.nil | refine FrLe.cons rfl ?_)) ?_))
   ·omega
   ·omega
   ·exact Ent.refl _
  ·obtain rfl : k = (Qp p).length := by omega
   rw [trn_all]
   refine QL (Qb (Qa (Qd rfl rfl ?_)))
   have hml : ((Qp p).map (M - ·)).length = (Qp p).length := List.length_map _
   rw [← hml]
   refine Qg rfl rfl (by repeat' constructor) (Pack_spec [QG 3 1 a5 c5 ((Qp p).map (M - ·)).length (QU ((Qp p).map (M - ·)))] a5 c5 ((Qp p).map (M - ·)) QI (by omega)) ?_
   rintro _ _ ⟨rfl, rfl⟩
   simp only [Qr]
   refine Qd rfl rfl (QC rfl rfl rfl (QC rfl rfl rfl (Qe rfl rfl (Qe rfl rfl (WpL.nil (Qb (Qa (Qd rfl rfl (Qe rfl rfl (WpL.nil (Qh ?_)))))))))))
   apply RetQ.mk
   ·exact (Res.one rfl rfl)
   ·exact ⟨rfl, rfl⟩
   ·exact Take.ent' (by repeat' constructor)

end Go.Proofs.YtggamdlpiejbiaaGreat
