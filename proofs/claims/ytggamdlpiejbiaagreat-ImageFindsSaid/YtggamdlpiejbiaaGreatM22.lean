/- Walks and plain laws, a part of the proof of ImageFinds: every input that the law's guards let in, no condition beside. -/
import Derived.Scope
import Derived.Test.YtggamdlpiejbiaaGreatM21
namespace Go.Proofs.YtggamdlpiejbiaaGreat
open Go.RowKit Go.Shelf


section
variable {P : Program} {b : Frame} {a : Act} {k : List Item} {cs : List Frame} {w : World}
theorem Ye {c : Code} : step P (lone (b.atR a (.code (.scope c) :: k)) cs w) = .next (lone (b.atR a (.code c :: .inScope c :: k)) cs w) :=
  step_lone_go (by simp [stepG, stepG.exec, Frame.atR])
theorem stepR_inScope {c : Code} : step P (lone (b.atR a (.inScope c :: k)) cs w) = .next (lone (b.atR a k) cs w) :=
  step_lone_go (by simp [stepG, stepG.exec, Frame.atR])
theorem wpIn_scope {F : Fence} {n : Nat} {Q : Exit → Act → World → Prop} {c : Code} (h : c.wpIn F n P (Exit.noGoto Q) a w) : (Code.scope c).wpIn F n P Q a w := by
  intro b k cs hro hb hr
  have h0 : (lone (b.atR a (.code (.scope c) :: k)) cs w).fenced P F := fenced_calm hb hr rfl
  obtain ⟨e, a₁, w₁, hq, harr⟩ := h b (.inScope c :: k) cs hro hb hr
  cases e with
  | normal => exact ⟨.normal, a₁, w₁, hq, .head h0 Ye (StepsIn.trans harr (.one (fenced_calm hb hr rfl) stepR_inScope))⟩
  | exit id =>
    have hx : exitTo id (.inScope c :: k) = exitTo id k := by simp [exitTo]
    exact ⟨.exit id, a₁, w₁, hq, fun k' hk => .head h0 Ye (harr.1 k' (by rw [hx]; exact hk)),
      fun hr' hk => let ⟨k₁, h1, h2⟩ := harr.2 hr' (by rw [hx]; exact hk); ⟨k₁, h1, .head h0 Ye h2⟩⟩
  | goto l => exact hq.elim
  | ret => exact ⟨_, a₁, w₁, hq, .of_steps (.one h0 Ye) harr⟩
  | panic ch => exact ⟨_, a₁, w₁, hq, .of_steps (.one h0 Ye) harr⟩
  | outgrown => exact ⟨_, a₁, w₁, hq, .of_steps (.one h0 Ye) harr⟩
end
section
variable {P : Program} {n : Cx} {D : List Deferred} {Q : Post} {fr : Fr} {l : List HP}
theorem Wp.label {i : Nat} (h : Q .normal D fr l) : Wp P n D (.label i) Q fr l := fun _ _ _ hh hs => wpIn_label ⟨D, fr, l, h, hh, .refl hs⟩
def scQ (Q : Post) : Post
  | .goto _, _, _, _ => False
  | e, D, fr, l => Q e D fr l
/-- A part with a label to which nothing jumps. -/
theorem Wp.scope {c : Code} (h : Wp P n D c (scQ Q) fr l) : Wp P n D (.scope c) Q fr l := fun a w U hh hs => wpIn_scope (Go.wpIn_mono (h a w U hh hs) fun e a' w' => by
  rintro ⟨D', fr', l', q, h1, h2⟩
  cases e with
  | goto i => exact q.elim
  | _ => exact ⟨D', fr', l', q, h1, h2⟩)
end

theorem rcFind_spec (A0 : HP) (W H w h : Nat) (px qx : List Int) (a b : Option Addr) (c d : Nat) (hA : RdsL [A0] a (Q7 px)) (hB : RdsL [A0] b (Q7 qx)) (hW : W ≤ 1000) (hH : H ≤ 1000) (hw : w ≤ 1000) (hh : h ≤ 1000) (hl : px.length = W * H) (hq : qx.length = w * h) (hc : px.length ≤ c) (hd : qx.length ≤ d) : Fn Tryz.prog 94 #[.agg #[.int .i64 (W : Int), .int .i64 (H : Int), .slice a px.length c], .agg #[.int .i64 (w : Int), .int .i64 (h : Int), .slice b qx.length d]] [A0] (fun v l => ∃ a' c', v = .slice a' (Q8 (Q3 px W H qx w h) W H).length c' ∧ l = [QI 106 2 a' c' (Q8 (Q3 px W H qx w h) W H).length ((Q8 (Q3 px W H qx w h) W H).flatMap plC), A0]) := by
 refine Qk (vs := [.agg #[.int .i64 (W : Int), .int .i64 (H : Int), .slice a px.length c], .agg #[.int .i64 (w : Int), .int .i64 (h : Int), .slice b qx.length d]]) Tryz.func94 rfl Tryz.ntmps94 rfl (Qb (Qa (QR rfl rfl rfl ?_)))
 intro gM
 refine QR rfl rfl rfl ?_
 intro gO
 refine Qe rfl rfl (WpL.nil (Qb (Qa (Qe rfl rfl (WpL.nil (Qb (Qb (Qa (Qj (o2 := 1) rfl rfl rfl (Qn rfl rfl (by rfl) ?_))))))))))
 refine Qd rfl rfl (WpL.nil (Wp.block ?_))
 refine Wp.loopD (σ := AsX) (fun x => x.k ≤ H) [5, 6, 7, 10, 11, 12, 13, 14, 15, 16, 17, 18, 19, 20, 21, 22, 23, 24, 25, 26, 27, 28, 29, 30, 31, 32, 33, 34, 35, 36, 37, 38, 39] (fun x => [(10, .int .i64 (x.k : Int)), (5, .slice x.a (Q8 (Q3 px W H qx w h) W x.k).length x.c)]) (fun x => [QI 106 2 x.a x.c (Q8 (Q3 px W H qx w h) W x.k).length ((Q8 (Q3 px W H qx w h) W x.k).flatMap plC), QB gO [.int .i64 (w : Int), .int .i64 (h : Int), .slice b qx.length d] 77, QB gM [.int .i64 (W : Int), .int .i64 (H : Int), .slice a px.length c] 77, A0]) (fun x => H - x.k) ⟨0, none, 0⟩ ?_ (by repeat (first | exact FrLe.nil | refine FrLe.cons rfl ?_)) ?_ ?_
 ·exact Nat.zero_le _
 ·exact Ent.own_nil (Ent.refl _)
 ·rintro ⟨y, a1, c1⟩ hy
  dsimp only at hy ⊢
  refine Qb (Qa (Q5 rfl rfl rfl (WpL.nil (Qb (Qm rfl (fun h1 => ?_) (fun h1 => ?_))))))
  ·have hyH : y < H := by omega
   refine Wp.skip (Qb (Wp.block ?_))
   refine Qb (Qa (Qd rfl rfl (Qe rfl rfl (WpL.nil (Wp.scope (Qb (Wp.label (Qb (Qa (Qj (o2 := 0) rfl rfl rfl (Qn rfl rfl (by rfl) ?_)))))))))))
   refine Qd rfl rfl (WpL.nil (Wp.block ?_))
   rw [show (Q8 (Q3 px W H qx w h) W y) = (Q8 (Q3 px W H qx w h) W y ++ Xn (Q3 px W H qx w h) y 0) from (List.append_nil _).symm]
   refine Wp.loopD (σ := AsX) (fun x => x.k ≤ W) [5, 7, 15, 16, 17, 18, 19, 20, 21, 22, 23, 24, 25, 26, 27, 28, 29, 30, 31, 32, 33, 34, 35, 36, 37, 38] (fun x => [(15, .int .i64 (x.k : Int)), (5, .slice x.a (Q8 (Q3 px W H qx w h) W y ++ Xn (Q3 px W H qx w h) y x.k).length x.c)]) (fun x => [QI 106 2 x.a x.c (Q8 (Q3 px W H qx w h) W y ++ Xn (Q3 px W H qx w h) y x.k).length ((Q8 (Q3 px W H qx w h) W y ++ Xn (Q3 px W H qx w h) y x.k).flatMap plC), QB gO [.int .i64 (w : Int), .int .i64 (h : Int), .slice b qx.length d] 77, QB gM [.int .i64 (W : Int), .int .i64 (H : Int), .slice a px.length c] 77, A0]) (fun x => W - x.k) ⟨0, a1, c1⟩ ?_ (by repeat (first | exact FrLe.nil | refine FrLe.cons rfl ?_)) ?_ ?_
   ·exact Nat.zero_le _
   ·exact Ent.refl _
   ·rintro ⟨n, a2, c2⟩ hn
    dsimp only at hn ⊢
    refine Qb (Qa (Q5 rfl rfl rfl (WpL.nil (Qb (Qm rfl (fun h3 => ?_) (fun h3 => ?_))))))
    ·have hnW : n < W := by omega
     have hfy := findY_len (Q3 px W H qx w h) W y
     have hfx := findX_len (Q3 px W H qx w h) y n
     have hyW : y * W ≤ 1000 * 1000 := Nat.mul_le_mul (by omega) hW
     have hol : (Q8 (Q3 px W H qx w h) W y ++ Xn (Q3 px W H qx w h) y n).length ≤ 1001000 := by rw [List.length_append]; omega
     refine Wp.skip (Qb (Wp.block ?_))
     refine Qb (Qa (Qd rfl rfl (Qe rfl rfl (WpL.nil (Qb (Qb (Qa ?_)))))))
     refine Qy (vs := [_, _, _]) rfl rfl rfl (by rfl) ?_
     refine Qd rfl rfl (Qd rfl rfl (Qj (o2 := 0) rfl rfl rfl (Qn rfl rfl (by rfl) ?_)))
     refine Qj (o2 := 1) rfl rfl rfl (Qn rfl rfl (by rfl) ?_)
     refine Qh rfl rfl (by repeat' constructor) (rcInside_spec W H px.length a c n y w h hW hH) ?_
     rintro _ _ ⟨rfl, rfl⟩
     simp only [Qr]
     refine XQ rfl rfl (WpL.nil (Qm rfl (fun h4 => ?_) (fun h4 => ?_)))
     ·rw [← findX_stop (has_stop (px := px) (qx := qx) h4) W (by omega), show Q8 (Q3 px W H qx w h) W y ++ Xn (Q3 px W H qx w h) y W = (Q8 (Q3 px W H qx w h) W (y + 1)) from rfl]
      refine QJ (Qa (QD rfl rfl rfl (Qs (by omega) (by omega)) ?_))
      refine Qd rfl rfl (WpL.nil (Qw (⟨y + 1, a2, c2⟩ : AsX) ?_ ?_ (by ((repeat (first | exact Top.refl | refine Top.push rfl ?_)); done)) (by repeat (first | exact FrLe.nil | refine FrLe.cons rfl ?_)) ?_))
      ·simp only; omega
      ·simp only; omega
      ·exact Ent.refl _
     ·refine Wp.skip (Qb (Qa ?_))
      refine Qy (vs := [_, _, _]) rfl rfl rfl (by rfl) ?_
      refine Qy (vs := [_, _, _]) rfl rfl rfl (by rfl) ?_
      refine Qd rfl rfl (Qd rfl rfl (Qh rfl rfl (by repeat' constructor) (rcHas_spec A0 W H w h px qx a b c d hA hB hW hH hw hh hl hq hc hd n y (by omega)) ?_))
      rintro _ _ ⟨rfl, rfl⟩
      simp only [Qr]
      refine WpL.nil (XF rfl (fun h5 => ?_) (fun h5 => ?_))
      ·refine Qa (Qd rfl rfl (Qd rfl rfl (Qd rfl rfl ?_)))
       refine XW rfl rfl ?_
       refine s_bsA1 rfl rfl (by rfl) (by rfl) (by rfl) (by rfl) ?_
       intro g3
       refine X6 rfl rfl rfl (by repeat' constructor) (by rfl) (by rfl) (by rfl) (by rfl) (by omega) (by omega) ?_
       intro a37 c37
       rw [show [Value.int .i64 (n : Int), .int .i64 (y : Int)] = plC ((n : Int), (y : Int)) from rfl, show (Q8 (Q3 px W H qx w h) W y ++ Xn (Q3 px W H qx w h) y n).flatMap plC ++ plC ((n : Int), (y : Int)) = (Q8 (Q3 px W H qx w h) W y ++ Xn (Q3 px W H qx w h) y (n + 1)).flatMap plC by rw [Xn, if_pos h5]; simp [List.flatMap_append], show (Q8 (Q3 px W H qx w h) W y ++ Xn (Q3 px W H qx w h) y n).length + 1 = (Q8 (Q3 px W H qx w h) W y ++ Xn (Q3 px W H qx w h) y (n + 1)).length by rw [Xn, if_pos h5, ← List.append_assoc, List.length_append (bs := [_])]; rfl]
       refine Qe rfl rfl (WpL.nil (Qa (QD rfl rfl rfl (Qs (by omega) (by omega)) ?_)))
       refine Qd rfl rfl (WpL.nil (Qw (⟨n + 1, a37, c37⟩ : AsX) ?_ ?_ (by ((repeat (first | exact Top.refl | refine Top.push rfl ?_)); done)) (by repeat (first | exact FrLe.nil | refine FrLe.cons rfl ?_)) ?_))
       ·simp only; omega
       ·simp only; omega
       ·exact Take.ent' (by repeat' constructor)
      ·rw [show (Q8 (Q3 px W H qx w h) W y ++ Xn (Q3 px W H qx w h) y n) = (Q8 (Q3 px W H qx w h) W y ++ Xn (Q3 px W H qx w h) y (n + 1)) by rw [Xn, if_neg (by rw [h5]; decide), List.append_nil]]
       refine Wp.skip (Qa (QD rfl rfl rfl (Qs (by omega) (by omega)) ?_))
       refine Qd rfl rfl (WpL.nil (Qw (⟨n + 1, a2, c2⟩ : AsX) ?_ ?_ (by ((repeat (first | exact Top.refl | refine Top.push rfl ?_)); done)) (by repeat (first | exact FrLe.nil | refine FrLe.cons rfl ?_)) ?_))
       ·simp only; omega
       ·simp only; omega
       ·exact Take.ent' (by repeat' constructor)
    ·have hnE : n = W := by omega
     rw [hnE, show (Q8 (Q3 px W H qx w h) W y ++ Xn (Q3 px W H qx w h) y W) = (Q8 (Q3 px W H qx w h) W (y + 1)) from rfl]
     refine QJ (Qa (QD rfl rfl rfl (Qs (by omega) (by omega)) ?_))
     refine Qd rfl rfl (WpL.nil (Qw (⟨y + 1, a2, c2⟩ : AsX) ?_ ?_ (by ((repeat (first | exact Top.refl | refine Top.push rfl ?_)); done)) (by repeat (first | exact FrLe.nil | refine FrLe.cons rfl ?_)) ?_))
     ·simp only; omega
     ·simp only; omega
     ·exact Ent.refl _
  ·obtain rfl : y = H := by omega
   refine QJ (Qb (Qa (Qd rfl rfl (Qe rfl rfl (WpL.nil (Qi ?_))))))
   apply RetQ.mk
   ·exact (Res.one rfl rfl)
   ·exact ⟨a1, c1, rfl, rfl⟩
   ·exact Take.ent' (by repeat' constructor)

end Go.Proofs.YtggamdlpiejbiaaGreat
namespace Go.Proofs.YtggamdlpiejbiaaGreat
open Go.RowKit Go.Shelf


theorem sub_snoc {px : List Int} {L x i : Nat} (h : L + (x + i) < px.length) : (px.drop (L + x)).take i ++ [px[L + (x + i)]] = (px.drop (L + x)).take (i + 1) := by
  have h1 : i < (px.drop (L + x)).length := by rw [List.length_drop]; omega
  rw [List.take_succ_eq_append_getElem h1, List.getElem_drop]
  congr 3
  omega

theorem rAt_spec (A0 : HP) (W H : Nat) (px : List Int) (a : Option Addr) (c : Nat) (hA : RdsL [A0] a (Q7 px)) (hW : W ≤ 1000) (hH : H ≤ 1000) (x y : Nat) (hx : x < W) (hy : y < H) (hix : y * W + x < px.length) : Fn Tryz.prog 200 #[.agg #[.int .i64 (W : Int), .int .i64 (H : Int), .slice a px.length c], .int .i64 (x : Int), .int .i64 (y : Int)] [A0] (fun v l => v = .tuple #[.int .u64 px[y * W + x], .bool true] ∧ l = [A0]) := by
 have hyw : ((y * W : Nat) : Int) = (y : Int) * (W : Int) := Int.natCast_mul y W
 have hyW : y * W ≤ 1000 * 1000 := Nat.mul_le_mul (by omega) hW
 refine Qk (vs := [.agg #[.int .i64 (W : Int), .int .i64 (H : Int), .slice a px.length c], .int .i64 (x : Int), .int .i64 (y : Int)]) Tryz.func200 rfl Tryz.ntmps200 rfl (Qb (Qa (QR rfl rfl rfl ?_)))
 intro g1
 refine Qe rfl rfl (Qe rfl rfl (WpL.nil (Qb (Qb (Qa (Qd rfl rfl (Q5 rfl rfl rfl (Qd rfl rfl (Qv (dj := 10) rfl (decide_eq_false (by omega)) ?_)))))))))
 refine Qf rfl rfl (Qd rfl rfl (Qf rfl rfl (Q5 rfl rfl rfl (Qp rfl rfl rfl (Qd rfl rfl (Qv (dj := 14) rfl (decide_eq_false (by omega)) ?_))))))
 refine Qf rfl rfl (Qd rfl rfl (Qf rfl rfl (Qj (o2 := 0) rfl rfl rfl (Qf rfl rfl (Qn rfl rfl (by rfl) ?_)))))
 refine Qf rfl rfl (Zg rfl rfl rfl (Qp rfl rfl rfl (Qd rfl rfl (Qv (dj := 20) rfl (decide_eq_false (by omega)) ?_))))
 refine Qf rfl rfl (Qd rfl rfl (Qf rfl rfl (Qj (o2 := 1) rfl rfl rfl (Qf rfl rfl (Qn rfl rfl (by rfl) ?_)))))
 refine Qf rfl rfl (Zg rfl rfl rfl (Qp rfl rfl rfl (WpL.nil (QA rfl (by omega) ?_))))
 refine Wp.skip (Qb (Qa (Qj (o2 := 2) rfl rfl rfl (Qn rfl rfl (by rfl) ?_))))
 refine Qd rfl rfl (Qj (o2 := 0) rfl rfl rfl (Qn rfl rfl (by rfl) ?_))
 refine Xu rfl rfl rfl (Qs (by omega) (by omega)) ?_
 refine Qd rfl rfl (QD rfl rfl rfl (Qs (by omega) (by omega)) ?_)
 refine Q9 (y * W + x) rfl rfl rfl hA (by exact Take.ent' (by repeat' constructor)) (by omega) hix (by rw [XY]; exact hix) ?_
 refine Xh rfl rfl hA (by exact Take.ent' (by repeat' constructor)) (Yy px hix) ?_
 refine Qe rfl rfl (Qe rfl rfl (WpL.nil (Qi ?_)))
 apply RetQ.mk
 ·exact (QE rfl rfl rfl)
 ·exact ⟨rfl, rfl⟩
 ·exact Take.ent' (by repeat' constructor)

theorem rSub_spec (A0 : HP) (W H : Nat) (px : List Int) (a : Option Addr) (c : Nat) (hA : RdsL [A0] a (Q7 px)) (hW : W ≤ 1000) (hH : H ≤ 1000) (hl : px.length = W * H) (x y w h : Nat) (hx : x ≤ 1000) (hy : y ≤ 1000) (hw : w ≤ 1000) (hh : h ≤ 1000) : Fn Tryz.prog 184 #[.agg #[.int .i64 (W : Int), .int .i64 (H : Int), .slice a px.length c], .int .i64 (x : Int), .int .i64 (y : Int), .int .i64 (w : Int), .int .i64 (h : Int)] [A0] (fun v l => (Yt W H x y w h ∧ ∃ a' c', v = .tuple #[.agg #[.int .i64 (w : Int), .int .i64 (h : Int), .slice a' (Xq px W x y w h).length c'], .bool true] ∧ l = [QI 92 1 a' c' (Xq px W x y w h).length (Q7 (Xq px W x y w h)), A0]) ∨ (¬ Yt W H x y w h ∧ v = .tuple #[.agg #[.int .i64 0, .int .i64 0, .slice none 0 0], .bool false] ∧ l = [A0])) := by
 refine Qk (vs := [.agg #[.int .i64 (W : Int), .int .i64 (H : Int), .slice a px.length c], .int .i64 (x : Int), .int .i64 (y : Int), .int .i64 (w : Int), .int .i64 (h : Int)]) Tryz.func184 rfl Tryz.ntmps184 rfl (Qb (Qa (QR rfl rfl rfl ?_)))
 intro gM
 refine XV rfl ?_
 intro gR
 refine Qe rfl rfl (WpL.nil (Qb (Qb (Qa (Qd rfl rfl (Q5 rfl rfl rfl (Qd rfl rfl (Qv (dj := 19) rfl (decide_eq_false (by omega)) ?_))))))))
 refine Qf rfl rfl (Qd rfl rfl (Qf rfl rfl (Q5 rfl rfl rfl (Qp rfl rfl rfl (Qd rfl rfl (Qv (dj := 23) rfl (decide_eq_false (by omega)) ?_))))))
 refine Qf rfl rfl (Qd rfl rfl (Qf rfl rfl (Q5 rfl rfl rfl (Qp rfl rfl rfl (Qd rfl rfl (QH rfl rfl rfl (fun hg3 => ?_) (fun hg3 => ?_)))))))
 ·have hg3 := of_decide_eq_false hg3
  refine Qd rfl rfl (Qf rfl rfl (Q5 rfl rfl rfl (Qp rfl rfl rfl (Qd rfl rfl (QH rfl rfl rfl (fun hg4 => ?_) (fun hg4 => ?_))))))
  ·have hg4 := of_decide_eq_false hg4
   refine Qd rfl rfl (Qf rfl rfl (Qj (o2 := 0) rfl rfl rfl (Qf rfl rfl (Qn rfl rfl (by rfl) ?_))))
   refine Qf rfl rfl (s_gt rfl rfl rfl (Qp rfl rfl rfl (Qd rfl rfl (QH rfl rfl rfl (fun hg5 => ?_) (fun hg5 => ?_)))))
   ·have hg5 := of_decide_eq_false hg5
    refine Qd rfl rfl (Qf rfl rfl (Qj (o2 := 1) rfl rfl rfl (Qf rfl rfl (Qn rfl rfl (by rfl) ?_))))
    refine Qf rfl rfl (s_gt rfl rfl rfl (Qp rfl rfl rfl (WpL.nil (Qm rfl (fun h0 => ?_) (fun h0 => ?_)))))
    ·refine Qb (Qa ?_)
     refine XW rfl rfl ?_
     refine Q1 rfl rfl rfl (by rfl) rfl ?_
     refine Qe rfl rfl (WpL.nil (Qi ?_))
     apply RetQ.mk
     ·exact (Xx rfl rfl (by rfl) rfl)
     ·exact .inr ⟨by unfold Yt; omega, rfl, rfl⟩
     ·exact Take.ent' (by repeat' constructor)
    ·refine Wp.skip (Qb (Qb (Qa (Qd rfl rfl (Qj (o2 := 0) rfl rfl rfl (Qn rfl rfl (by rfl) ?_))))))
     refine Qd rfl rfl (YJ rfl rfl rfl (Qs (by omega) (by omega)) ?_)
     refine s_gt rfl rfl rfl (Qd rfl rfl (QH rfl rfl rfl (fun hg6 => ?_) (fun hg6 => ?_)))
     ·have hg6 := of_decide_eq_false hg6
      refine Qd rfl rfl (Qf rfl rfl (Qj (o2 := 1) rfl rfl rfl (Qf rfl rfl (Qn rfl rfl (by rfl) ?_))))
      refine Qf rfl rfl (Qd rfl rfl (Qf rfl rfl (YJ rfl rfl rfl (Qs (by omega) (by omega)) ?_)))
      refine Qf rfl rfl (s_gt rfl rfl rfl (Qp rfl rfl rfl (WpL.nil (Qm rfl (fun h1 => ?_) (fun h1 => ?_)))))
      ·refine Qb (Qa ?_)
       refine XW rfl rfl ?_
       refine Q1 rfl rfl rfl (by rfl) rfl ?_
       refine Qe rfl rfl (WpL.nil (Qi ?_))
       apply RetQ.mk
       ·exact (Xx rfl rfl (by rfl) rfl)
       ·exact .inr ⟨by unfold Yt; omega, rfl, rfl⟩
       ·exact Take.ent' (by repeat' constructor)
      ·refine Wp.skip (Qb (Qa (Qd rfl rfl (Qd rfl rfl ?_))))
       refine XW rfl rfl ?_
       refine XV rfl ?_
       intro gS
       refine Q1 rfl rfl rfl (by rfl) rfl ?_
       refine WpL.nil (Qb (Qb (Qa (Qe rfl rfl (WpL.nil (Wp.block ?_))))))
       have hin : Yt W H x y w h := by unfold Yt; omega
       refine Wp.loopD (σ := AsX) (fun q => q.k ≤ h) [13, 14, 15, 16, 62, 63, 64, 65, 66, 67, 68, 69, 70, 71, 72, 73, 74, 75, 76, 77, 78, 79, 80, 81, 82, 83, 84, 85, 86, 87, 88] (fun q => [(13, .int .i64 (q.k : Int))]) (fun q => [QI 92 1 q.a q.c (Xq px W x y w q.k).length (Q7 (Xq px W x y w q.k)), QB gS [.int .i64 (w : Int), .int .i64 (h : Int), .slice q.a (Xq px W x y w q.k).length q.c] 69, QB gR [.int .i64 0, .int .i64 0, .slice none 0 0] 69, QB gM [.int .i64 (W : Int), .int .i64 (H : Int), .slice a px.length c] 69, A0]) (fun q => h - q.k) ⟨0, none, 0⟩ ?_ (by repeat (first | exact FrLe.nil | refine FrLe.cons rfl ?_)) ?_ ?_
       ·exact Nat.zero_le _
       ·exact Ent.own_nil (Ent.refl _)
       ·rintro ⟨k, a1, c1⟩ hk
        dsimp only at hk ⊢
        refine Qb (Qb (Qa (Qd rfl rfl (Qd rfl rfl (Q5 rfl rfl rfl (WpL.nil (Qm rfl (fun h3 => ?_) (fun h3 => ?_))))))))
        ·have hkh : k < h := by omega
         have hr1 := prow_in hl hin hkh
         have hin2 := hin
         unfold Yt at hin2
         have hpk := Zm hl hin k (by omega)
         have hkw : k * w ≤ 1000 * 1000 := Nat.mul_le_mul (by omega) (by omega)
         refine Wp.skip (Qb (Wp.block ?_))
         refine Qb (Qa (Qe rfl rfl (WpL.nil (Wp.block ?_))))
         rw [show (Xq px W x y w k) = (Xq px W x y w k ++ (px.drop ((y + k) * W + x)).take 0) by simp]
         refine Wp.loopD (σ := AsX) (fun q => q.k ≤ w) [14, 15, 16, 67, 68, 69, 70, 71, 72, 73, 74, 75, 76, 77, 78, 79, 80, 81, 82, 83, 84, 85, 86, 87, 88] (fun q => [(14, .int .i64 (q.k : Int))]) (fun q => [QI 92 1 q.a q.c (Xq px W x y w k ++ (px.drop ((y + k) * W + x)).take q.k).length (Q7 (Xq px W x y w k ++ (px.drop ((y + k) * W + x)).take q.k)), QB gS [.int .i64 (w : Int), .int .i64 (h : Int), .slice q.a (Xq px W x y w k ++ (px.drop ((y + k) * W + x)).take q.k).length q.c] 69, QB gR [.int .i64 0, .int .i64 0, .slice none 0 0] 69, QB gM [.int .i64 (W : Int), .int .i64 (H : Int), .slice a px.length c] 69, A0]) (fun q => w - q.k) ⟨0, a1, c1⟩ ?_ (by repeat (first | exact FrLe.nil | refine FrLe.cons rfl ?_)) ?_ ?_
         ·exact Nat.zero_le _
         ·exact Ent.refl _
         ·rintro ⟨i, a2, c2⟩ hi
          dsimp only at hi ⊢
          refine Qb (Qb (Qa (Qd rfl rfl (Qd rfl rfl (Q5 rfl rfl rfl (WpL.nil (Qm rfl (fun h5 => ?_) (fun h5 => ?_))))))))
          ·have hiw : i < w := by omega
           have hix : (y + k) * W + (x + i) < px.length := by omega
           have hol : (Xq px W x y w k ++ (px.drop ((y + k) * W + x)).take i).length ≤ 1001000 := by rw [List.length_append, hpk, List.length_take]; omega
           refine Wp.skip (Qb (Wp.block ?_))
           refine Qb (Qa ?_)
           refine Qy (vs := [_, _, _]) rfl rfl rfl (by rfl) ?_
           refine Qd rfl rfl (Qd rfl rfl (QD rfl rfl rfl (Qs (by omega) (by omega)) ?_))
           refine Qd rfl rfl (Qd rfl rfl (QD rfl rfl rfl (Qs (by omega) (by omega)) ?_))
           refine Qh rfl rfl (by repeat' constructor) (rAt_spec A0 W H px a c hA hW hH (x + i) (y + k) (by omega) (by omega) hix) ?_
           rintro _ _ ⟨rfl, rfl⟩
           simp only [Qr]
           refine Qd rfl rfl (QG rfl rfl rfl (QG rfl rfl rfl (Qe rfl rfl (Qe rfl rfl (WpL.nil (Qa (Qj (o2 := 2) rfl rfl rfl (Qn rfl rfl (by rfl) ?_))))))))
           refine Qd rfl rfl ?_
           refine Zo rfl rfl rfl rfl ?_
           intro g4
           refine X6 rfl rfl rfl (by repeat' constructor) (by rfl) (by rfl) (by rfl) (by rfl) (by omega) (by omega) ?_
           intro a87 c87
           rw [Zn, show (Xq px W x y w k ++ (px.drop ((y + k) * W + x)).take i) ++ [px[(y + k) * W + (x + i)]] = (Xq px W x y w k ++ (px.drop ((y + k) * W + x)).take (i + 1)) by rw [List.append_assoc, sub_snoc hix], show (Xq px W x y w k ++ (px.drop ((y + k) * W + x)).take i).length + 1 = (Xq px W x y w k ++ (px.drop ((y + k) * W + x)).take (i + 1)).length by rw [← sub_snoc hix, ← List.append_assoc, List.length_append (bs := [_])]; rfl]
           refine Qj (o2 := 2) rfl rfl rfl (QW rfl rfl rfl (WpL.nil (Qa (Qd rfl rfl (QD rfl rfl rfl (Qs (by omega) (by omega)) ?_)))))
           refine Qe rfl rfl (WpL.nil (Qw (⟨i + 1, a87, c87⟩ : AsX) ?_ ?_ (by ((repeat (first | exact Top.refl | refine Top.push rfl ?_)); done)) (by repeat (first | exact FrLe.nil | refine FrLe.cons rfl ?_)) ?_))
           ·simp only; omega
           ·simp only; omega
           ·exact Take.ent' (by repeat' constructor)
          ·have hiE : i = w := by omega
           rw [hiE, show (Xq px W x y w k ++ (px.drop ((y + k) * W + x)).take w) = (Xq px W x y w (k + 1)) from rfl]
           refine QJ (Qa (Qd rfl rfl (QD rfl rfl rfl (Qs (by omega) (by omega)) ?_)))
           refine Qe rfl rfl (WpL.nil (Qw (⟨k + 1, a2, c2⟩ : AsX) ?_ ?_ (by ((repeat (first | exact Top.refl | refine Top.push rfl ?_)); done)) (by repeat (first | exact FrLe.nil | refine FrLe.cons rfl ?_)) ?_))
           ·simp only; omega
           ·simp only; omega
           ·exact Ent.refl _
        ·obtain rfl : k = h := by omega
         refine QJ (Qb (Qa ?_))
         refine Qy (vs := [_, _, _]) rfl rfl rfl (by rfl) ?_
         refine Q1 rfl rfl rfl (by rfl) rfl ?_
         refine Qe rfl rfl (WpL.nil (Qi ?_))
         apply RetQ.mk
         ·exact (Xx rfl rfl (by rfl) rfl)
         ·exact .inl ⟨hin, a1, c1, rfl, rfl⟩
         ·exact Take.ent' (by repeat' constructor)
     ·have hg6 := of_decide_eq_true hg6
      refine Qc rfl rfl rfl (by decide) (Qc rfl rfl rfl (by decide) (Qc rfl rfl rfl (by decide) (Qc rfl rfl rfl (by decide) (Qc rfl rfl rfl (by decide) (Qx rfl rfl rfl (WpL.nil (XG rfl (Qb (Qa ?_)))))))))
      refine XW rfl rfl ?_
      refine Q1 rfl rfl rfl (by rfl) rfl ?_
      refine Qe rfl rfl (WpL.nil (Qi ?_))
      apply RetQ.mk
      ·exact (Xx rfl rfl (by rfl) rfl)
      ·exact .inr ⟨by unfold Yt; omega, rfl, rfl⟩
      ·exact Take.ent' (by repeat' constructor)
   ·have hg5 := of_decide_eq_true hg5
    refine Qc rfl rfl rfl (by decide) (Qc rfl rfl rfl (by decide) (Qc rfl rfl rfl (by decide) (Qx rfl rfl rfl (WpL.nil (XG rfl (Qb (Qa ?_)))))))
    refine XW rfl rfl ?_
    refine Q1 rfl rfl rfl (by rfl) rfl ?_
    refine Qe rfl rfl (WpL.nil (Qi ?_))
    apply RetQ.mk
    ·exact (Xx rfl rfl (by rfl) rfl)
    ·exact .inr ⟨by unfold Yt; omega, rfl, rfl⟩
    ·exact Take.ent' (by repeat' constructor)
  ·have hg4 := of_decide_eq_true hg4
   refine Qc rfl rfl rfl (by decide) (Qc rfl rfl rfl (by decide) (Qc rfl rfl rfl (by decide) (Qx rfl rfl rfl (Qd rfl rfl (Qc rfl rfl rfl (by decide) (Qc rfl rfl rfl (by decide) (Qc rfl rfl rfl (by decide) (Qc rfl rfl rfl (by decide) (Qx rfl rfl rfl (WpL.nil (XG rfl (Qb ?_))))))))))))
   refine Qa ?_
   refine XW rfl rfl ?_
   refine Q1 rfl rfl rfl (by rfl) rfl ?_
   refine Qe rfl rfl (WpL.nil (Qi ?_))
   apply RetQ.mk
   ·exact (Xx rfl rfl (by rfl) rfl)
   ·exact .inr ⟨by unfold Yt; omega, rfl, rfl⟩
   ·exact Take.ent' (by repeat' constructor)
 ·have hg3 := of_decide_eq_true hg3
  refine Qc rfl rfl rfl (by decide) (Qx rfl rfl rfl (Qd rfl rfl (Qc rfl rfl rfl (by decide) (Qc rfl rfl rfl (by decide) (Qc rfl rfl rfl (by decide) (Qc rfl rfl rfl (by decide) (Qx rfl rfl rfl (Qd rfl rfl (Qc rfl rfl rfl (by decide) (Qc rfl rfl rfl (by decide) (Qc rfl rfl rfl (by decide) (Qc rfl rfl rfl (by decide) ?_))))))))))))
  refine Qx rfl rfl rfl (WpL.nil (XG rfl (Qb (Qa ?_))))
  refine XW rfl rfl ?_
  refine Q1 rfl rfl rfl (by rfl) rfl ?_
  refine Qe rfl rfl (WpL.nil (Qi ?_))
  apply RetQ.mk
  ·exact (Xx rfl rfl (by rfl) rfl)
  ·exact .inr ⟨by unfold Yt; omega, rfl, rfl⟩
  ·exact Take.ent' (by repeat' constructor)

end Go.Proofs.YtggamdlpiejbiaaGreat
namespace Go.Proofs.YtggamdlpiejbiaaGreat
open Go.RowKit Go.Shelf

theorem rHas03_spec (A0 : HP) (W H w h : Nat) (px qx : List Int) (a b : Option Addr) (c d : Nat) (hA : RdsL [A0] a (Q7 px)) (hB : RdsL [A0] b (Q7 qx)) (hW : W ≤ 1000) (hH : H ≤ 1000) (hw : w ≤ 1000) (hh : h ≤ 1000) (hl : px.length = W * H) (_hq : qx.length = w * h) (_hc : px.length ≤ c) (_hd : qx.length ≤ d) (x y : Nat) (hx : x ≤ 1000) (hy : y ≤ 1000) : Fn Tryz.prog 151 #[.agg #[.int .i64 (W : Int), .int .i64 (H : Int), .slice a px.length c], .agg #[.int .i64 (w : Int), .int .i64 (h : Int), .slice b qx.length d], .int .i64 (x : Int), .int .i64 (y : Int)] [A0] (fun v l => v = .bool (Q3 px W H qx w h x y) ∧ l = [A0]) := by
 have hWH : W * H ≤ 1000 * 1000 := Nat.mul_le_mul hW hH
 have hwh : w * h ≤ 1000 * 1000 := Nat.mul_le_mul hw hh
 refine Qk (vs := [.agg #[.int .i64 (W : Int), .int .i64 (H : Int), .slice a px.length c], .agg #[.int .i64 (w : Int), .int .i64 (h : Int), .slice b qx.length d], .int .i64 (x : Int), .int .i64 (y : Int)]) Tryz.func151 rfl Tryz.ntmps151 rfl (Qb (Qa (QR rfl rfl rfl ?_)))
 intro gM
 refine QR rfl rfl rfl ?_
 intro gO
 refine Qe rfl rfl (WpL.nil (Qb (Qa ?_)))
 refine Qy (vs := [_, _, _]) rfl rfl rfl (by rfl) ?_
 refine Qd rfl rfl (Qd rfl rfl (Qj (o2 := 0) rfl rfl rfl (Qn rfl rfl (by rfl) ?_)))
 refine Qj (o2 := 1) rfl rfl rfl (Qn rfl rfl (by rfl) ?_)
 refine Qh rfl rfl (by repeat' constructor) (rSub_spec A0 W H px a c hA hW hH hl x y w h hx hy hw hh) ?_
 intro v0 m0 hN0
 rcases hN0 with ⟨hin, aS, cS, rfl, rfl⟩ | ⟨hin, rfl, rfl⟩
 ·simp only [Qr]
  have hpl := Zm hl hin h (Nat.le_refl _)
  have hhw : h * w ≤ 1000 * 1000 := Nat.mul_le_mul hh hw
  refine Qd rfl rfl (QG rfl rfl rfl (QG rfl rfl rfl (XV rfl ?_)))
  intro g3
  refine Q1 rfl rfl rfl (by rfl) rfl ?_
  refine Qe rfl rfl (WpL.nil (Qb (Qa (Qd rfl rfl (Qd rfl rfl (Qt (dj := 23) rfl rfl ?_))))))
  refine Qf rfl rfl ?_
  refine Qy (vs := [_, _, _]) rfl rfl rfl (by rfl) ?_
  refine Qf rfl rfl ?_
  refine Qy (vs := [_, _, _]) rfl rfl rfl (by rfl) ?_
  refine Qf rfl rfl (Qh rfl rfl (by repeat' constructor) (rSame03_spec [QI 92 1 aS cS (Xq px W x y w h).length (Q7 (Xq px W x y w h)), A0] (⟨0, 0, (w : Int), (h : Int), (Xq px W x y w h)⟩ : Img) (⟨0, 0, (w : Int), (h : Int), qx⟩ : Img) aS b cS d QO.head hB.tail (by simp only; omega)) ?_)
  rintro _ _ ⟨rfl, rfl⟩
  simp only [Qr]
  refine Qx rfl rfl rfl (Qe rfl rfl (WpL.nil (Qi ?_)))
  apply RetQ.mk
  ·exact (Res.one rfl rfl)
  ·exact ⟨congrArg Value.bool (decide_eq_decide.2 ⟨fun q => ⟨hin, q.2.2⟩, fun q => ⟨trivial, trivial, q.2⟩⟩), rfl⟩
  ·exact Take.ent' (by repeat' constructor)
 ·simp only [Qr]
  refine Qd rfl rfl (QG rfl rfl rfl (QG rfl rfl rfl (XV rfl ?_)))
  intro g4
  refine Q1 rfl rfl rfl (by rfl) rfl ?_
  refine Qe rfl rfl (WpL.nil (Qb (Qa (Qd rfl rfl (Qd rfl rfl (Qv (dj := 23) rfl rfl ?_))))))
  refine Qc rfl rfl rfl (by decide) (Qc rfl rfl rfl (by decide) (Qc rfl rfl rfl (by decide) (Qp rfl rfl rfl (Qe rfl rfl (WpL.nil (Qi ?_))))))
  apply RetQ.mk
  ·exact (Res.one rfl rfl)
  ·exact ⟨congrArg Value.bool (decide_eq_false fun q => hin q.1).symm, rfl⟩
  ·exact Take.ent' (by repeat' constructor)

theorem rFind03_spec (A0 : HP) (W H w h : Nat) (px qx : List Int) (a b : Option Addr) (c d : Nat) (hA : RdsL [A0] a (Q7 px)) (hB : RdsL [A0] b (Q7 qx)) (hW : W ≤ 1000) (hH : H ≤ 1000) (hw : w ≤ 1000) (hh : h ≤ 1000) (hl : px.length = W * H) (hq : qx.length = w * h) (hc : px.length ≤ c) (hd : qx.length ≤ d) : Fn Tryz.prog 95 #[.agg #[.int .i64 (W : Int), .int .i64 (H : Int), .slice a px.length c], .agg #[.int .i64 (w : Int), .int .i64 (h : Int), .slice b qx.length d]] [A0] (fun v l => ∃ a' c', v = .slice a' (Q8 (Q3 px W H qx w h) W H).length c' ∧ l = [QI 106 2 a' c' (Q8 (Q3 px W H qx w h) W H).length ((Q8 (Q3 px W H qx w h) W H).flatMap plC), A0]) := by
 refine Qk (vs := [.agg #[.int .i64 (W : Int), .int .i64 (H : Int), .slice a px.length c], .agg #[.int .i64 (w : Int), .int .i64 (h : Int), .slice b qx.length d]]) Tryz.func95 rfl Tryz.ntmps95 rfl (Qb (Qa (QR rfl rfl rfl ?_)))
 intro gM
 refine QR rfl rfl rfl ?_
 intro gO
 refine Qe rfl rfl (WpL.nil (Qb (Qa (Qe rfl rfl (WpL.nil (Qb (Qb (Qa (Qe rfl rfl (WpL.nil (Wp.block ?_)))))))))))
 refine Wp.loopD (σ := AsX) (fun x => x.k ≤ H) [5, 6, 7, 8, 9, 10, 11, 12, 13, 14, 15, 16, 17, 18, 19, 20, 21, 22, 23, 24, 25, 26, 27, 28, 29, 30] (fun x => [(6, .int .i64 (x.k : Int)), (5, .slice x.a (Q8 (Q3 px W H qx w h) W x.k).length x.c)]) (fun x => [QI 106 2 x.a x.c (Q8 (Q3 px W H qx w h) W x.k).length ((Q8 (Q3 px W H qx w h) W x.k).flatMap plC), QB gO [.int .i64 (w : Int), .int .i64 (h : Int), .slice b qx.length d] 69, QB gM [.int .i64 (W : Int), .int .i64 (H : Int), .slice a px.length c] 69, A0]) (fun x => H - x.k) ⟨0, none, 0⟩ ?_ (by repeat (first | exact FrLe.nil | refine FrLe.cons rfl ?_)) ?_ ?_
 ·exact Nat.zero_le _
 ·exact Ent.own_nil (Ent.refl _)
 ·rintro ⟨y, a1, c1⟩ hy
  dsimp only at hy ⊢
  refine Qb (Qb (Qa (Qd rfl rfl (Qj (o2 := 1) rfl rfl rfl (Qn rfl rfl (by rfl) ?_)))))
  refine Q5 rfl rfl rfl (WpL.nil (Qm rfl (fun h1 => ?_) (fun h1 => ?_)))
  ·have hyH : y < H := by omega
   refine Wp.skip (Qb (Wp.block ?_))
   refine Qb (Qa (Qe rfl rfl (WpL.nil (Wp.block ?_))))
   rw [show (Q8 (Q3 px W H qx w h) W y) = (Q8 (Q3 px W H qx w h) W y ++ Xn (Q3 px W H qx w h) y 0) from (List.append_nil _).symm]
   refine Wp.loopD (σ := AsX) (fun x => x.k ≤ W) [5, 7, 14, 15, 16, 17, 18, 19, 20, 21, 22, 23, 24, 25, 26, 27, 28, 29, 30] (fun x => [(7, .int .i64 (x.k : Int)), (5, .slice x.a (Q8 (Q3 px W H qx w h) W y ++ Xn (Q3 px W H qx w h) y x.k).length x.c)]) (fun x => [QI 106 2 x.a x.c (Q8 (Q3 px W H qx w h) W y ++ Xn (Q3 px W H qx w h) y x.k).length ((Q8 (Q3 px W H qx w h) W y ++ Xn (Q3 px W H qx w h) y x.k).flatMap plC), QB gO [.int .i64 (w : Int), .int .i64 (h : Int), .slice b qx.length d] 69, QB gM [.int .i64 (W : Int), .int .i64 (H : Int), .slice a px.length c] 69, A0]) (fun x => W - x.k) ⟨0, a1, c1⟩ ?_ (by repeat (first | exact FrLe.nil | refine FrLe.cons rfl ?_)) ?_ ?_
   ·exact Nat.zero_le _
   ·exact Ent.refl _
   ·rintro ⟨n, a2, c2⟩ hn
    dsimp only at hn ⊢
    refine Qb (Qb (Qa (Qd rfl rfl (Qj (o2 := 0) rfl rfl rfl (Qn rfl rfl (by rfl) ?_)))))
    refine Q5 rfl rfl rfl (WpL.nil (Qm rfl (fun h3 => ?_) (fun h3 => ?_)))
    ·have hnW : n < W := by omega
     have hfy := findY_len (Q3 px W H qx w h) W y
     have hfx := findX_len (Q3 px W H qx w h) y n
     have hyW : y * W ≤ 1000 * 1000 := Nat.mul_le_mul (by omega) hW
     have hol : (Q8 (Q3 px W H qx w h) W y ++ Xn (Q3 px W H qx w h) y n).length ≤ 1001000 := by rw [List.length_append]; omega
     refine Wp.skip (Qb (Wp.block ?_))
     refine Qb (Qa ?_)
     refine Qy (vs := [_, _, _]) rfl rfl rfl (by rfl) ?_
     refine Qy (vs := [_, _, _]) rfl rfl rfl (by rfl) ?_
     refine Qd rfl rfl (Qd rfl rfl (Qh rfl rfl (by repeat' constructor) (rHas03_spec A0 W H w h px qx a b c d hA hB hW hH hw hh hl hq hc hd n y (by omega) (by omega)) ?_))
     rintro _ _ ⟨rfl, rfl⟩
     simp only [Qr]
     refine WpL.nil (XF rfl (fun h4 => ?_) (fun h4 => ?_))
     ·refine Qa (Qd rfl rfl (Qd rfl rfl (Qd rfl rfl ?_)))
      refine XW rfl rfl ?_
      refine s_bsA1 rfl rfl (by rfl) (by rfl) (by rfl) (by rfl) ?_
      intro g3
      refine X6 rfl rfl rfl (by repeat' constructor) (by rfl) (by rfl) (by rfl) (by rfl) (by omega) (by omega) ?_
      intro a37 c37
      rw [show [Value.int .i64 (n : Int), .int .i64 (y : Int)] = plC ((n : Int), (y : Int)) from rfl, show (Q8 (Q3 px W H qx w h) W y ++ Xn (Q3 px W H qx w h) y n).flatMap plC ++ plC ((n : Int), (y : Int)) = (Q8 (Q3 px W H qx w h) W y ++ Xn (Q3 px W H qx w h) y (n + 1)).flatMap plC by rw [Xn, if_pos h4]; simp [List.flatMap_append], show (Q8 (Q3 px W H qx w h) W y ++ Xn (Q3 px W H qx w h) y n).length + 1 = (Q8 (Q3 px W H qx w h) W y ++ Xn (Q3 px W H qx w h) y (n + 1)).length by rw [Xn, if_pos h4, ← List.append_assoc, List.length_append (bs := [_])]; rfl]
      refine Qe rfl rfl (WpL.nil (Qa (Qd rfl rfl (QD rfl rfl rfl (Qs (by omega) (by omega)) ?_))))
      refine Qe rfl rfl (WpL.nil (Qw (⟨n + 1, a37, c37⟩ : AsX) ?_ ?_ (by ((repeat (first | exact Top.refl | refine Top.push rfl ?_)); done)) (by repeat (first | exact FrLe.nil | refine FrLe.cons rfl ?_)) ?_))
      ·simp only; omega
      ·simp only; omega
      ·exact Take.ent' (by repeat' constructor)
     ·rw [show (Q8 (Q3 px W H qx w h) W y ++ Xn (Q3 px W H qx w h) y n) = (Q8 (Q3 px W H qx w h) W y ++ Xn (Q3 px W H qx w h) y (n + 1)) by rw [Xn, if_neg (by rw [h4]; decide), List.append_nil]]
      refine Wp.skip (Qa (Qd rfl rfl (QD rfl rfl rfl (Qs (by omega) (by omega)) ?_)))
      refine Qe rfl rfl (WpL.nil (Qw (⟨n + 1, a2, c2⟩ : AsX) ?_ ?_ (by ((repeat (first | exact Top.refl | refine Top.push rfl ?_)); done)) (by repeat (first | exact FrLe.nil | refine FrLe.cons rfl ?_)) ?_))
      ·simp only; omega
      ·simp only; omega
      ·exact Take.ent' (by repeat' constructor)
    ·have hnE : n = W := by omega
     rw [hnE, show (Q8 (Q3 px W H qx w h) W y ++ Xn (Q3 px W H qx w h) y W) = (Q8 (Q3 px W H qx w h) W (y + 1)) from rfl]
     refine QJ (Qa (Qd rfl rfl (QD rfl rfl rfl (Qs (by omega) (by omega)) ?_)))
     refine Qe rfl rfl (WpL.nil (Qw (⟨y + 1, a2, c2⟩ : AsX) ?_ ?_ (by ((repeat (first | exact Top.refl | refine Top.push rfl ?_)); done)) (by repeat (first | exact FrLe.nil | refine FrLe.cons rfl ?_)) ?_))
     ·simp only; omega
     ·simp only; omega
     ·exact Ent.refl _
  ·obtain rfl : y = H := by omega
   refine QJ (Qb (Qa (Qd rfl rfl (Qe rfl rfl (WpL.nil (Qi ?_))))))
   apply RetQ.mk
   ·exact (Res.one rfl rfl)
   ·exact ⟨a1, c1, rfl, rfl⟩
   ·exact Take.ent' (by repeat' constructor)


/-- Where an image is in another one. -/
def igF (C M C2 M2 : Int) (px : List Int) (W H : Nat) (qx : List Int) (w h : Nat) : List (Int × Int) := if [C, M] ≠ [C2, M2] then [] else Q8 (Q3 px W H qx w h) W H
theorem igF_len {C M C2 M2 : Int} {px qx : List Int} {W H w h : Nat} : (igF C M C2 M2 px W H qx w h).length ≤ H * W := by
  unfold igF
  split
  · exact Nat.zero_le _
  · exact findY_len _ W H

theorem iFind_spec (A0 : HP) (W H w h : Nat) (px qx : List Int) (a b : Option Addr) (c d : Nat) (hA : RdsL [A0] a (Q7 px)) (hB : RdsL [A0] b (Q7 qx)) (hW : W ≤ 1000) (hH : H ≤ 1000) (hw : w ≤ 1000) (hh : h ≤ 1000) (hl : px.length = W * H) (hq : qx.length = w * h) (hc : px.length ≤ c) (hd : qx.length ≤ d) (C M C2 M2 : Int) : Fn Tryz.prog 51 #[.agg #[.int .i64 C, .int .i64 M, .int .i64 (W : Int), .int .i64 (H : Int), .slice a px.length c], .agg #[.int .i64 C2, .int .i64 M2, .int .i64 (w : Int), .int .i64 (h : Int), .slice b qx.length d]] [A0] (fun v l => ∃ a' c', v = .slice a' (igF C M C2 M2 px W H qx w h).length c' ∧ l = [QI 106 2 a' c' (igF C M C2 M2 px W H qx w h).length ((igF C M C2 M2 px W H qx w h).flatMap plC), A0]) := by
 refine Qk (vs := [.agg #[.int .i64 C, .int .i64 M, .int .i64 (W : Int), .int .i64 (H : Int), .slice a px.length c], .agg #[.int .i64 C2, .int .i64 M2, .int .i64 (w : Int), .int .i64 (h : Int), .slice b qx.length d]]) Tryz.func51 rfl Tryz.ntmps51 rfl (Qb (Qa (QR rfl rfl rfl ?_)))
 intro g1
 refine QR rfl rfl rfl ?_
 intro g2
 refine Qe rfl rfl (WpL.nil (Qb (Qb (Qa (Qj (o2 := 0) rfl rfl rfl ?_)))))
 refine Qy (vs := [_, _]) rfl rfl rfl (by rfl) ?_
 refine Qj (o2 := 0) rfl rfl rfl ?_
 refine Qy (vs := [_, _]) rfl rfl rfl (by rfl) ?_
 refine s_ane [C, M] [C2, M2] rfl rfl rfl rfl rfl (WpL.nil (Qm rfl (fun h0 => ?_) (fun h0 => ?_)))
 ·refine Qb (Qa (Qe rfl rfl (WpL.nil (Qi ?_))))
  apply RetQ.mk
  ·exact (Res.one rfl rfl)
  ·exact ⟨none, 0, by rw [igF, if_pos h0]; rfl, rfl⟩
  ·rw [igF, if_pos h0]
   exact Ent.own_nil (Take.ent' (by repeat' constructor))
 ·refine Wp.skip (Qb (Qa (Qj (o2 := 2) rfl rfl rfl ?_)))
  refine Qy (vs := [_, _, _]) rfl rfl rfl (by rfl) ?_
  refine Qj (o2 := 2) rfl rfl rfl ?_
  refine Qy (vs := [_, _, _]) rfl rfl rfl (by rfl) ?_
  refine Qh rfl rfl (by repeat' constructor) (rcFind_spec A0 W H w h px qx a b c d hA hB hW hH hw hh hl hq hc hd) ?_
  rintro _ _ ⟨aF, cF, rfl, rfl⟩
  simp only [Qr]
  refine Qe rfl rfl (WpL.nil (Qi ?_))
  apply RetQ.mk
  ·exact (Res.one rfl rfl)
  ·exact ⟨aF, cF, by rw [igF, if_neg h0], rfl⟩
  ·rw [igF, if_neg h0]
   exact Take.ent' (by repeat' constructor)

theorem rFind10_spec (A0 : HP) (W H w h : Nat) (px qx : List Int) (a b : Option Addr) (c d : Nat) (hA : RdsL [A0] a (Q7 px)) (hB : RdsL [A0] b (Q7 qx)) (hW : W ≤ 1000) (hH : H ≤ 1000) (hw : w ≤ 1000) (hh : h ≤ 1000) (hl : px.length = W * H) (hq : qx.length = w * h) (hc : px.length ≤ c) (hd : qx.length ≤ d) (C M C2 M2 : Int) : Fn Tryz.prog 52 #[.agg #[.int .i64 C, .int .i64 M, .int .i64 (W : Int), .int .i64 (H : Int), .slice a px.length c], .agg #[.int .i64 C2, .int .i64 M2, .int .i64 (w : Int), .int .i64 (h : Int), .slice b qx.length d]] [A0] (fun v l => ∃ a' c', v = .slice a' (igF C M C2 M2 px W H qx w h).length c' ∧ l = [QI 106 2 a' c' (igF C M C2 M2 px W H qx w h).length ((igF C M C2 M2 px W H qx w h).flatMap plC), A0]) := by
 refine Qk (vs := [.agg #[.int .i64 C, .int .i64 M, .int .i64 (W : Int), .int .i64 (H : Int), .slice a px.length c], .agg #[.int .i64 C2, .int .i64 M2, .int .i64 (w : Int), .int .i64 (h : Int), .slice b qx.length d]]) Tryz.func52 rfl Tryz.ntmps52 rfl (Qb (Qa (QR rfl rfl rfl ?_)))
 intro g1
 refine QR rfl rfl rfl ?_
 intro g2
 refine Qe rfl rfl (WpL.nil (Qb (Qb (Qa (Qj (o2 := 0) rfl rfl rfl ?_)))))
 refine Qy (vs := [_, _]) rfl rfl rfl (by rfl) ?_
 refine Qj (o2 := 0) rfl rfl rfl ?_
 refine Qy (vs := [_, _]) rfl rfl rfl (by rfl) ?_
 refine s_ane [C, M] [C2, M2] rfl rfl rfl rfl rfl (WpL.nil (Qm rfl (fun h0 => ?_) (fun h0 => ?_)))
 ·refine Qb (Qa (Qe rfl rfl (WpL.nil (Qi ?_))))
  apply RetQ.mk
  ·exact (Res.one rfl rfl)
  ·exact ⟨none, 0, by rw [igF, if_pos h0]; rfl, rfl⟩
  ·rw [igF, if_pos h0]
   exact Ent.own_nil (Take.ent' (by repeat' constructor))
 ·refine Wp.skip (Qb (Qa (Qj (o2 := 2) rfl rfl rfl ?_)))
  refine Qy (vs := [_, _, _]) rfl rfl rfl (by rfl) ?_
  refine Qj (o2 := 2) rfl rfl rfl ?_
  refine Qy (vs := [_, _, _]) rfl rfl rfl (by rfl) ?_
  refine Qh rfl rfl (by repeat' constructor) (rFind03_spec A0 W H w h px qx a b c d hA hB hW hH hw hh hl hq hc hd) ?_
  rintro _ _ ⟨aF, cF, rfl, rfl⟩
  simp only [Qr]
  refine Qe rfl rfl (WpL.nil (Qi ?_))
  apply RetQ.mk
  ·exact (Res.one rfl rfl)
  ·exact ⟨aF, cF, by rw [igF, if_neg h0], rfl⟩
  ·rw [igF, if_neg h0]
   exact Take.ent' (by repeat' constructor)

end Go.Proofs.YtggamdlpiejbiaaGreat
namespace Go.Proofs.YtggamdlpiejbiaaGreat
open Go.RowKit Go.Shelf


/-- Arrays of two QU, held against themselves. -/
class AqT (P : Program) (T : Nat) (e : outParam Nat) : Prop where
  hu : P.underlying T = some (.array 2 e)
  hi : (P.info? e).isSome = true
  hc : P.cellsOf e = 1
  he : P.underlying e = some (.int .i64)
  hp : P.plainKey e = true
  gd : P.eqGuardType P.depth T = false
section
variable {P : Program} {n : Cx} {D : List Deferred} {ops : Array Oper} {rest : List Oper} {Q : Post} {fr : Fr} {l : List HP} {ty : Nat} {pos : String} {aft : Array Edge}
theorem run_aqS {T e : Nat} (hT : AqT P T e) (a b : Int) (w : World) : (Op.equalIn 10000 T (.agg #[.int .i64 a, .int .i64 b]) (.agg #[.int .i64 a, .int .i64 b])).run P w = .ok true w := by
  obtain ⟨i, hi⟩ := Option.isSome_iff_exists.1 hT.hi
  rw [run_equalIn_array w 9999 _ _ hT.hu hi, hT.hc]
  have e1 : (part e #[.int .i64 a, .int .i64 b] 0).run P w = .ok (.int .i64 a) w := run_part_plain w hT.hp (by simp)
  have e2 : (part e #[.int .i64 a, .int .i64 b] 1).run P w = .ok (.int .i64 b) w := run_part_plain w hT.hp (by simp)
  have hr : List.range 2 = [0, 1] := rfl
  rw [hr]
  simp [Op.eqItems, e1, e2, run_equalIn_int w 9998 e .i64 .i64 _ _ hT.he]
theorem s_arneS {d T T2 e : Nat} {x y : Operand} (a b : Int) (hd : Nat.blt d n = true) [hT : AqT P T e] (hx : ev fr x = some (.agg #[.int .i64 a, .int .i64 b])) (hy : ev fr y = some (.agg #[.int .i64 a, .int .i64 b]))
    (kk : WpL P n D ops rest Q ((d, .bool false) :: fr) l) : WpL P n D ops (⟨some d, .binOp .neq T x y T2, ty, pos, aft, none⟩ :: rest) Q fr l :=
  QF hd (fun A w _ hh _ => by
    simp only [execOp, hh.ev hx, hh.ev hy, Sem.run_bind, run_eqGuard_agg w .neq T x y _ _ hT.gd, Result.andThen_ok, run_neq_struct, run_aqS hT a b]
    simp) kk
end
instance : AqT Tryz.prog 106 3 := ⟨by kernel_rfl, by kernel_rfl, by kernel_rfl, by kernel_rfl, by kernel_rfl, by kernel_rfl⟩
/-- Where an image is in another one, of images. -/
def igX (x y : Img) : List (Int × Int) := igF x.c x.m y.c y.m x.px x.w.toNat x.h.toNat y.px y.w.toNat y.h.toNat
theorem igX_len {x y : Img} (hx : GoodI 100 x) : (igX x y).length ≤ 10000 := by
  have h := igF_len (C := x.c) (M := x.m) (C2 := y.c) (M2 := y.m) (px := x.px) (qx := y.px) (W := x.w.toNat) (H := x.h.toNat) (w := y.w.toNat) (h := y.h.toNat)
  obtain ⟨_, _, hw, hh, _, _⟩ := hx
  have q : x.h.toNat * x.w.toNat ≤ 100 * 100 := Nat.mul_le_mul (by omega) (by omega)
  unfold igX
  omega
theorem good_le {a b : Int} {m : Img} (h : GoodI a m) (hab : a ≤ b) : GoodI b m := ⟨h.1, h.2.1, ⟨h.2.2.1.1, by have := h.2.2.1.2; omega⟩, ⟨h.2.2.2.1.1, by have := h.2.2.2.1.2; omega⟩, h.2.2.2.2⟩


theorem iFindX_spec (A0 : HP) (x y : Img) (a b : Option Addr) (c d : Nat) (hA : RdsL [A0] a (Q7 x.px)) (hB : RdsL [A0] b (Q7 y.px)) (hgx : GoodI 100 x) (hgy : GoodI 100 y) (hc : x.px.length ≤ c) (hd : y.px.length ≤ d) : Fn Tryz.prog 51 #[.agg (mC x a c).toArray, .agg (mC y b d).toArray] [A0] (fun v l => ∃ a' c', v = .slice a' (igX x y).length c' ∧ l = [QI 106 2 a' c' (igX x y).length ((igX x y).flatMap plC), A0]) := by
  obtain ⟨C, M, W, H, px⟩ := x
  obtain ⟨C2, M2, w, h, qx⟩ := y
  obtain ⟨_, _, hw1, hh1, hl1, _⟩ := hgx
  obtain ⟨_, _, hw2, hh2, hl2, _⟩ := hgy
  dsimp only at hA hB hc hd hw1 hh1 hl1 hw2 hh2 hl2
  obtain ⟨W, rfl⟩ := Int.eq_ofNat_of_zero_le (show 0 ≤ W by omega)
  obtain ⟨H, rfl⟩ := Int.eq_ofNat_of_zero_le (show 0 ≤ H by omega)
  obtain ⟨w, rfl⟩ := Int.eq_ofNat_of_zero_le (show 0 ≤ w by omega)
  obtain ⟨h, rfl⟩ := Int.eq_ofNat_of_zero_le (show 0 ≤ h by omega)
  exact iFind_spec A0 W H w h px qx a b c d hA hB (by omega) (by omega) (by omega) (by omega) (by exact_mod_cast hl1) (by exact_mod_cast hl2) hc hd C M C2 M2


theorem rFind10X_spec (A0 : HP) (x y : Img) (a b : Option Addr) (c d : Nat) (hA : RdsL [A0] a (Q7 x.px)) (hB : RdsL [A0] b (Q7 y.px)) (hgx : GoodI 100 x) (hgy : GoodI 100 y) (hc : x.px.length ≤ c) (hd : y.px.length ≤ d) : Fn Tryz.prog 52 #[.agg (mC x a c).toArray, .agg (mC y b d).toArray] [A0] (fun v l => ∃ a' c', v = .slice a' (igX x y).length c' ∧ l = [QI 106 2 a' c' (igX x y).length ((igX x y).flatMap plC), A0]) := by
  obtain ⟨C, M, W, H, px⟩ := x
  obtain ⟨C2, M2, w, h, qx⟩ := y
  obtain ⟨_, _, hw1, hh1, hl1, _⟩ := hgx
  obtain ⟨_, _, hw2, hh2, hl2, _⟩ := hgy
  dsimp only at hA hB hc hd hw1 hh1 hl1 hw2 hh2 hl2
  obtain ⟨W, rfl⟩ := Int.eq_ofNat_of_zero_le (show 0 ≤ W by omega)
  obtain ⟨H, rfl⟩ := Int.eq_ofNat_of_zero_le (show 0 ≤ H by omega)
  obtain ⟨w, rfl⟩ := Int.eq_ofNat_of_zero_le (show 0 ≤ w by omega)
  obtain ⟨h, rfl⟩ := Int.eq_ofNat_of_zero_le (show 0 ≤ h by omega)
  exact rFind10_spec A0 W H w h px qx a b c d hA hB (by omega) (by omega) (by omega) (by omega) (by exact_mod_cast hl1) (by exact_mod_cast hl2) hc hd C M C2 M2

end Go.Proofs.YtggamdlpiejbiaaGreat
