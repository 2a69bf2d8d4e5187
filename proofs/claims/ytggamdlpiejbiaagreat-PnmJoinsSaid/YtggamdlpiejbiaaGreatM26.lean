/- Walks and plain laws, a part of the proof of PnmJoins: every input that the law's guards let in, no condition beside. -/
import Derived.Test.YtggamdlpiejbiaaGreatM25
namespace Go.Proofs.YtggamdlpiejbiaaGreat
open Go.RowKit Go.Shelf


section
variable {P : Program} {n : Cx} {D : List Deferred} {Q : Post} {fr : Fr} {l : List HP}
end

section
variable {P : Program} {n : Cx} {D : List Deferred} {ops : Array Oper} {rest : List Oper} {Q : Post} {fr : Fr} {l : List HP} {ty : Nat} {pos : String} {aft : Array Edge}
theorem s_appCc {d t e by_ : Nat} {z : Value} {x y : Operand} {a2 : Option Addr} {g c m c2 m2 : Nat} {xs ys : List Value} {As F : List HP} (hd : Nat.blt d n = true) [ht : SlT P t e 1 by_ z] (hx : ev fr x = some (.slice (some ⟨g, 0, none⟩) m c)) (hy : ev fr y = some (.slice a2 m2 c2))
    (htk : Take l [cvR e g c xs] F) (hA : RdsL As a2 ys) (he : Ent F As) (hlx : xs.length = m) (hl : ys.length = m2) (hz : z.cells.size = 1) (h1 : ∀ u ∈ ys, u.oneCell' = true) (hb : (m + m2) * by_ ≤ 140737488355328) (hm : m + m2 ≤ 140737488355328)
    (k : ∀ g' c', m + m2 ≤ c' → WpL P n D ops rest Q ((d, .slice (some ⟨g', 0, none⟩) (m + m2) c') :: fr) (rdo g' (xs ++ ys) :: F)) : WpL P n D ops (⟨some d, .call ⟨.builtin .append, #[x, y], #[t, t]⟩, ty, pos, aft, none⟩ :: rest) Q fr l := by
  refine XR (σ := {p : Nat × Nat // m + m2 ≤ p.2}) hd (fun p => .slice (some ⟨p.1.1, 0, none⟩) (m + m2) p.1.2) (fun p => rdo p.1.1 (xs ++ ys) :: F) (fun A w U hh hs' => ?_) (fun p => k p.1.1 p.1.2 p.2)
  have h2 := htk.ent w U hs'
  obtain ⟨S, hp, hSU, hF⟩ := id h2
  obtain ⟨hS, cur, hg, hc, hlc, htake⟩ := id hp
  obtain ⟨i0, hi, hz0, hz1, hz2⟩ := info_parts ht.hi
  have hRA := hA w _ (he w _ hF)
  have hgl : g < w.heap.size := (Array.getElem?_eq_some_iff.1 hg).1
  cases a2 with
  | none =>
    have hy0 : ys = [] := by
      cases ys with
      | nil => rfl
      | cons q qs => exact absurd (hRA.1 (by simp)) (by simp)
    subst hy0
    have hm0 : m2 = 0 := hl.symm
    subst hm0
    refine ⟨⟨(g, c), by simp only; omega⟩, w, ?_, ⟨⟨S, ⟨hS, hgl, fun j u hu => cvR_cells hp j u (by simpa using hu)⟩, fun b hb => .inl (hSU b hb), hF.mono fun b hb => ⟨.inl hb.1, hb.2⟩⟩, .refl _ _⟩⟩
    have hle : m ≤ c := by omega
    simp [execOp, resolve, invoke, builtin, hh.ev hx, hh.ev hy, Builtin.append_, run_underlying ht.hu, sizeOf, typeInfo, hi, Builtin.lenOf, hle, Builtin.firstCells, storeCells]
  | some ad =>
    have hnew : ∀ j u, ys[j]? = some u → w.cell? (ad.add j) = some u := fun j u hu => hRA.2 ad rfl j u hu
    by_cases hroom : m + m2 ≤ c
    · have hcell : ∀ j, j < ys.length → (w.cell? ⟨g, 0 + m * i0.size + j, none⟩).isSome = true := fun j hj => by
        rw [cell_of_row w g _ cur e _ hg, hz1]
        simp; omega
      have hfr : ∀ j, j < ys.length → w.frozen? ⟨g, 0 + m * i0.size + j, none⟩ = false := fun j hj => by
        unfold World.frozen?
        simp only [hg, hz1]
        simp; omega
      have hr := run_append_room_cells (P := P) w t ty e i0 ht.hu hi g 0 m c ad m2 c2 ys (by rw [hz1, hl]; omega) hnew h1 hroom hcell hfr
      have hch := setCells_chg g ys (0 + m * i0.size) w
      have hm1 : 0 + m * i0.size = m := by rw [hz1]; omega
      rw [hm1] at hr hch hcell
      refine ⟨⟨(g, c), hroom⟩, w.setCells g m ys, by simp [execOp, resolve, invoke, builtin, hh.ev hx, hh.ev hy, hr], ⟨S, ⟨hS, by rw [hch.2.2.2.1]; exact hgl, fun j u hu => ?_⟩, fun b hb => .inl (hSU b hb), ?_⟩, ⟨hch.1, hch.2.1, hch.2.2.1, by rw [hch.2.2.2.1]; exact Nat.le_refl _, fun b _ hnb => hch.2.2.2.2 b fun e => hnb (hSU b ((hS b).2 e))⟩⟩
      · by_cases hj : j < xs.length
        · rw [World.cell?_setCells_out g ys m w ⟨g, j, none⟩ (fun _ _ => .inl (by simp only; omega))]
          rw [List.getElem?_append_left hj] at hu
          exact cvR_cells hp j u hu
        · rw [List.getElem?_append_right (by omega)] at hu
          obtain ⟨hj2, hu2⟩ := List.getElem?_eq_some_iff.1 hu
          have := World.cell?_setCells_in g ys m w hcell (j - xs.length) hj2
          rw [show m + (j - xs.length) = j by omega, hu2] at this
          exact this
      · have hk : Sat (w.setCells g m ys) F (fun b => (U b ∧ ¬ S b) ∧ b < w.heap.size) := hF.inside.keep (by rw [hch.2.2.2.1]; exact Nat.le_refl _) fun b hb _ => hch.2.2.2.2 b fun e => hb.1.2 ((hS b).2 e)
        exact hk.mono fun b hb => ⟨.inl hb.1.1, hb.1.2⟩
    · obtain ⟨v', w', hr, hown, hgrown⟩ := run_append_arg_grows (P := P) w t ty e i0 z 1 by_ ht.hu hi hz0 hz1 hz2 hz (by decide) ⟨g, 0, none⟩ m c xs (by omega) (fun j u hu => by rw [ZY, Nat.zero_add]; exact cvR_cells hp j u hu) ad m2 c2 ys (by omega) hnew (by omega) (by unfold maxLen; omega) hb
      rcases hown.2 with ⟨_, h0⟩ | ⟨g', cap, cur', rfl, hg0, hg', hcap, hmx, hcs, htk'⟩
      · omega
      · have hblk : ∀ b, b < w.heap.size → w'.heap[b]? = w.heap[b]? := fun b hb => hgrown.block b hb (by simp)
        refine ⟨⟨(g', cap), by simp only; omega⟩, w', by simp [execOp, resolve, invoke, builtin, hh.ev hx, hh.ev hy, hr], ⟨fun b => b = g', ⟨fun _ => Iff.rfl, (Array.getElem?_eq_some_iff.1 hg').1, fun j u hu => ?_⟩, fun b hb => .inr (by rw [hb]; exact hg0), ?_⟩, ⟨hgrown.os, hgrown.tape, hgrown.output, hgrown.size, fun b hb _ => hblk b hb⟩⟩
        · rw [cell_of_row w' g' j cur' e _ hg']
          rw [← htk', List.getElem?_take] at hu
          split at hu
          · simpa using hu
          · cases hu
        · have hk : Sat w' F (fun b => (U b ∧ ¬ S b) ∧ b < w.heap.size) := hF.inside.keep hgrown.size fun b _ hlt => hblk b hlt
          exact hk.mono fun b hb => ⟨.inl hb.1.1, fun e => by rw [e] at hb; exact absurd hb.2 (Nat.not_lt.2 hg0)⟩

end
set_option maxHeartbeats 1000000 in
theorem iWriteNc_spec (A0 : HP) (C M : Int) (Wn Hn : Nat) (a : Option Addr) (c : Nat) (px : List Int) (hA : RdsL [A0] a (Xp px)) (hb : ∀ p ∈ px, 0 ≤ p ∧ p < 18446744073709551616) (hcap : px.length ≤ c) (hpl : px.length ≤ 9223372036854775807) (k : Int) : Fn Tryz.prog 48 #[.agg #[.int .i64 C, .int .i64 M, .int .i64 (Wn : Int), .int .i64 (Hn : Int), .slice a px.length c], .int .i64 k] [A0] (fun v l => (k ∈ QJ C M ∧ Yq C M (Wn : Int) (Hn : Int) px ∧ ∃ g c2, (YY ⟨C, M, (Wn : Int), (Hn : Int), px⟩ k).length ≤ c2 ∧ v = .tuple #[.slice (some ⟨g, 0, none⟩) (YY ⟨C, M, (Wn : Int), (Hn : Int), px⟩ k).length c2, .int .i64 0] ∧ l = [rdo g (Xr (YY ⟨C, M, (Wn : Int), (Hn : Int), px⟩ k)), A0]) ∨ (¬ (k ∈ QJ C M ∧ Yq C M (Wn : Int) (Hn : Int) px) ∧ v = .tuple #[.slice none 0 0, .int .i64 1] ∧ l = [A0])) := by
 refine Qk (vs := [.agg #[.int .i64 C, .int .i64 M, .int .i64 (Wn : Int), .int .i64 (Hn : Int), .slice a px.length c], .int .i64 k]) Tryz.func48 rfl Tryz.ntmps48 rfl (Qb (Qa (Q9 rfl rfl rfl ?_)))
 intro gI
 refine Qe rfl rfl (Qe rfl rfl (WpL.nil (Qb (Qa ?_))))
 refine QI (vs := [_, _, _, _, _]) rfl rfl rfl (by rfl) ?_
 refine Qc rfl rfl (Qh rfl rfl (by repeat' constructor) (iHead_alt [A0] C M (Wn : Int) (Hn : Int) a c px hA hb hpl k) ?_)
 intro v0 m0 hN0
 rcases hN0 with ⟨hT, rfl, rfl⟩ | ⟨hT, rfl, rfl⟩
 ·simp only [Qr]
  obtain ⟨hMay, hfit, hpl2, hp16⟩ := tk_may hT
  have hM2 := hMay
  unfold Xv at hM2
  refine Qc rfl rfl (QH rfl rfl rfl (QH rfl rfl rfl (YE rfl ?_)))
  intro gH
  refine XL rfl rfl rfl (by rfl) rfl ?_
  refine Qe rfl rfl (WpL.nil (Qb (Qb (Qa (Qc rfl rfl (Xn rfl rfl rfl (WpL.nil (Qz rfl (fun h => h rfl) ?_))))))))
  refine Wp.skip (Qb (Qa ?_))
  refine QI (vs := [_, _, _, _]) rfl rfl rfl (by rfl) ?_
  refine Qh rfl rfl (by repeat' constructor) (hWrite_spec _ _ _ _ hMay) ?_
  rintro _ _ ⟨s6, hs6, rfl, rfl⟩
  simp only [Qr]
  have hz6 := hdW_lenH hMay
  have hs6z : s6.size ≤ 400000 := by rw [← XS, hs6]; exact hz6
  refine Qc rfl rfl (QH rfl rfl rfl (QH rfl rfl rfl (Qe rfl rfl (Qe rfl rfl (WpL.nil (Qb (Qa (s_mkf rfl (fun a hh => X6 hh _ _ rfl) ?_))))))))
  refine Qe rfl rfl (WpL.nil (Qb (Qb (Qa ?_))))
  refine QI (vs := [_, _, _, _]) rfl rfl rfl (by rfl) ?_
  refine Qh rfl rfl (by repeat' constructor) (ZW _ _ _ _) ?_
  rintro _ _ ⟨rfl, rfl⟩
  simp only [Qr]
  refine WpL.nil (Ql rfl (fun h1 => ?_) (fun h1 => ?_))
  ·refine Qa (s_mkf rfl (fun a hh => X6 hh _ _ rfl) ?_)
   refine Qe rfl rfl (WpL.nil (Qb (Qa (Qc rfl rfl (s_t2bc rfl Tryz.underlying9 Tryz.underlying22 Tryz.underlying5 rfl ?_)))))
   intro g30 c30
   rw [hs6]
   refine Qc rfl rfl (X3 (u := []) (c := [.pointer (some ⟨gI, 0, none⟩), .pointer (some ⟨gH, 0, none⟩)]) rfl rfl rfl rfl (by repeat' constructor) (iWrR_spec A0 gI gH C M k Wn Hn a c px hA hb hcap hT (by omega)) ?_)
   rintro _ _ ⟨a9, c9, rfl, hz9, rfl⟩
   simp only [Qr]
   (refine s_appCc rfl rfl rfl (by repeat' constructor) (QE (T := 5) (s := 1) (c := c9) (m := (Xg k Wn (Qg M) px Hn).length)) (by exact Take.ent' (by repeat' constructor)) (Xa _) (Xa _) (by rfl) (YM _) (by omega) (by omega) ?_; intro g33 c33 hc33; rw [Zy]; rw [← List.length_append, show hdW k (Wn : Int) (Hn : Int) M ++ (Xg k Wn (Qg M) px Hn) = (YY ⟨C, M, (Wn : Int), (Hn : Int), px⟩ k) from (by unfold YY; rw [if_neg (by omega)]; rfl)] at *)
   refine Qe rfl rfl (Qe rfl rfl (WpL.nil (Qi ?_)))
   apply RetQ.mk
   ·exact (QB rfl rfl rfl)
   ·exact .inl ⟨hT.1, hT.2, g33, c33, hc33, rfl, rfl⟩
   ·exact Take.ent' (by repeat' constructor)
  ·refine Wp.skip (Qb (Qa (Qc rfl rfl (s_t2bc rfl Tryz.underlying9 Tryz.underlying22 Tryz.underlying5 rfl ?_))))
   intro g30 c30
   rw [hs6]
   refine Qc rfl rfl (X3 (u := []) (c := [.pointer (some ⟨gI, 0, none⟩), .pointer (some ⟨gH, 0, none⟩)]) rfl rfl rfl rfl (by repeat' constructor) (iWrP_spec A0 gI gH C M k Wn Hn a c px hA hb hcap hT (by omega)) ?_)
   rintro _ _ ⟨gB, cB, rfl, rfl⟩
   simp only [Qr]
   (have hz8 := wrL_lenB hT (by omega); refine s_appCc rfl rfl rfl (by repeat' constructor) (RdsL.rdo (g := gB) (xs := Xr (wrL k (Wn : Int) 0 px))) (by exact Take.ent' (by repeat' constructor)) (Xa _) (Xa _) (by rfl) (YM _) (by omega) (by omega) ?_; intro g33 c33 hc33; rw [Zy]; rw [← List.length_append, show hdW k (Wn : Int) (Hn : Int) M ++ (wrL k (Wn : Int) 0 px) = (YY ⟨C, M, (Wn : Int), (Hn : Int), px⟩ k) from (by unfold YY; rw [if_pos (by omega)])] at *)
   refine Qe rfl rfl (Qe rfl rfl (WpL.nil (Qi ?_)))
   apply RetQ.mk
   ·exact (QB rfl rfl rfl)
   ·exact .inl ⟨hT.1, hT.2, g33, c33, hc33, rfl, rfl⟩
   ·exact Take.ent' (by repeat' constructor)
 ·simp only [Qr]
  refine Qc rfl rfl (QH rfl rfl rfl (QH rfl rfl rfl (YE rfl ?_)))
  intro gH
  refine XL rfl rfl rfl (by rfl) rfl ?_
  refine Qe rfl rfl (WpL.nil (Qb (Qb (Qa (Qc rfl rfl (Xn rfl rfl rfl (WpL.nil (QU rfl (by decide) (Qb (Qa (Qc rfl rfl (Qe rfl rfl ?_))))))))))))
  refine Qe rfl rfl (WpL.nil (Qi ?_))
  apply RetQ.mk
  ·exact (QB rfl rfl rfl)
  ·exact .inr ⟨hT, rfl, rfl⟩
  ·exact Take.ent' (by repeat' constructor)


/-- An image's bytes, by the program, of whatever image. -/
theorem iWriteX_spec (A0 : HP) (x : Img) (hw : 0 ≤ x.w) (hh : 0 ≤ x.h) (a : Option Addr) (c : Nat) (hA : RdsL [A0] a (Xp x.px)) (hb : ∀ p ∈ x.px, 0 ≤ p ∧ p < 18446744073709551616) (hcap : x.px.length ≤ c) (hpl : x.px.length ≤ 9223372036854775807) (k : Int) :
    Fn Tryz.prog 48 #[.agg (mC x a c).toArray, .int .i64 k] [A0] (fun v l => ((k ∈ QJ x.c x.m ∧ Yq x.c x.m x.w x.h x.px) ∧ ∃ g c2, (YY x k).length ≤ c2 ∧ v = .tuple #[.slice (some ⟨g, 0, none⟩) (YY x k).length c2, .int .i64 0] ∧ l = [rdo g (Xr (YY x k)), A0]) ∨ (¬ (k ∈ QJ x.c x.m ∧ Yq x.c x.m x.w x.h x.px) ∧ v = .tuple #[.slice none 0 0, .int .i64 1] ∧ l = [A0])) := by
  obtain ⟨C, M, w, h, px⟩ := x
  dsimp only at hw hh hA hb hcap hpl ⊢
  obtain ⟨Wn, rfl⟩ := Int.eq_ofNat_of_zero_le hw
  obtain ⟨Hn, rfl⟩ := Int.eq_ofNat_of_zero_le hh
  refine (iWriteNc_spec A0 C M Wn Hn a c px hA hb hcap hpl k).mono ?_
  rintro v l (⟨q1, q2, q3⟩ | q)
  · exact ⟨_, .inl ⟨⟨q1, q2⟩, q3⟩, Ent.refl _⟩
  · exact ⟨_, .inr q, Ent.refl _⟩

end Go.Proofs.YtggamdlpiejbiaaGreat
namespace Go.Proofs.YtggamdlpiejbiaaGreat
open Go.RowKit Go.Shelf


theorem rWriteG_spec (A0 : HP) (m : Img) (a : Option Addr) (c : Nat) (hA : RdsL [A0] a (Xp m.px)) (most : Int) (hmo : most ≤ 100) (hg : YG most m) (k : Int) : Fn Tryz.prog 34 #[.agg (imC m a c).toArray, .int .i64 k] [A0] (fun v l => (k ∈ QJ m.c m.m ∧ ∃ B b e, RdsL [B] b (Xr (YY m k)) ∧ (YY m k).length ≤ e ∧ v = .tuple #[.slice b (YY m k).length e, .int .i64 0] ∧ l = [B, A0]) ∨ (k ∉ QJ m.c m.m ∧ v = .tuple #[.slice none 0 0, .int .i64 1] ∧ l = [A0])) := by
  by_cases hk : k ∈ QJ m.c m.m
  · refine (rWrite10c_spec A0 m a c hA most hmo hg k hk).mono ?_
    rintro v l ⟨B, b, e, h1, h2, rfl, rfl⟩
    exact ⟨_, .inl ⟨hk, B, b, e, h1, h2, rfl, rfl⟩, Ent.refl _⟩
  · refine (rWrite10n_spec A0 m.c m.m m.w m.h a c m.px hA (fun p hp => (hg.2.2.2.2.2 p hp).2) (by have := (good_sz hmo hg).2; omega) k (fun q => hk q.1)).mono ?_
    rintro v l ⟨rfl, rfl⟩
    exact ⟨_, .inr ⟨hk, rfl, rfl⟩, Ent.refl _⟩
theorem iWriteG_spec (A0 : HP) (m : Img) (a : Option Addr) (c : Nat) (hA : RdsL [A0] a (Xp m.px)) (hcap : m.px.length ≤ c) (most : Int) (hmo : most ≤ 100) (hg : YG most m) (k : Int) : Fn Tryz.prog 48 #[.agg (mC m a c).toArray, .int .i64 k] [A0] (fun v l => (k ∈ QJ m.c m.m ∧ ∃ g e, (YY m k).length ≤ e ∧ v = .tuple #[.slice (some ⟨g, 0, none⟩) (YY m k).length e, .int .i64 0] ∧ l = [rdo g (Xr (YY m k)), A0]) ∨ (k ∉ QJ m.c m.m ∧ v = .tuple #[.slice none 0 0, .int .i64 1] ∧ l = [A0])) := by
  obtain ⟨_, _, hgw, hgh, _, hgp⟩ := id hg
  refine (iWriteX_spec A0 m (by omega) (by omega) a c hA (fun p hp => (hgp p hp).2) hcap (by have := (good_sz hmo hg).2; omega) k).mono ?_
  rintro v l (⟨hT, g, e, h1, rfl, rfl⟩ | ⟨hT, rfl, rfl⟩)
  · exact ⟨_, .inl ⟨hT.1, g, e, h1, rfl, rfl⟩, Ent.refl _⟩
  · exact ⟨_, .inr ⟨fun hk => hT ⟨hk, (good_fits hmo hg hk).2.2⟩, rfl, rfl⟩, Ent.refl _⟩

end Go.Proofs.YtggamdlpiejbiaaGreat
namespace Go.Proofs.YtggamdlpiejbiaaGreat
open Go.RowKit Go.Shelf

theorem rJoinX_spec (A1 A0 A2 : HP) (la : Option Addr) (lc : Nat) (L : ImL) (hL : RdsL [A1] la (L.flatMap iC)) (hpx : ∀ r ∈ L, RdsL [A0] r.2.1 (Xp r.1.px)) (most : Int) (hmo : most ≤ 100) (hgd : ∀ r ∈ L, YG most r.1) (hl : L.length ≤ 1000) (ka : Option Addr) (kc : Nat) (ks : List Int) (hk : RdsL [A2] ka (QY ks)) : Fn Tryz.prog 26 #[.slice la L.length lc, .slice ka ks.length kc] [A1, A0, A2] (fun v l => ∃ a c, v = .tuple #[.slice a (jnX (L.map (·.1)) ks).1.length c, .int .i64 (jnX (L.map (·.1)) ks).2] ∧ l = [QG 5 1 a c (jnX (L.map (·.1)) ks).1.length (Xr (jnX (L.map (·.1)) ks).1), A1, A0, A2]) := by
 refine Qk (vs := [.slice la L.length lc, .slice ka ks.length kc]) Tryz.func26 rfl Tryz.ntmps26 rfl (Qb (Qa (Qe rfl rfl (Qe rfl rfl (WpL.nil (Qb (Qa (Qe rfl rfl (WpL.nil (Qb (Qb (Qa ?_))))))))))))
 refine Qc rfl rfl (QC rfl rfl (Qc rfl rfl (QC rfl rfl (Xn rfl rfl rfl (WpL.nil (Ql rfl (fun h0 => ?_) (fun h0 => ?_)))))))
 ·refine Qb (Qa (Qe rfl rfl (Qe rfl rfl (WpL.nil (Qi ?_)))))
  apply RetQ.mk
  ·exact (QB rfl rfl rfl)
  ·rw [show jnX (L.map (·.1)) ks = ([], 1) from if_neg (by rw [List.length_map]; omega)]
   exact ⟨none, 0, rfl, rfl⟩
  ·exact Ent.own_nil (Take.ent' (by repeat' constructor))
 ·have hll : L.length = ks.length := by omega
  refine Wp.skip (Qb (Qb (Qa (Qe rfl rfl (WpL.nil (Wp.block ?_))))))
  refine Wp.loopD (σ := KdX) (fun x => x.k ≤ L.length ∧ jnX (L.map (·.1)) ks = jnF ((L.map (·.1)).drop x.k) (ks.drop x.k) x.out ∧ x.out.length ≤ x.k * 3000001) [4, 5, 6, 7, 8, 9, 15, 16, 17, 18, 19, 20, 21, 22, 23, 24, 25, 26, 27, 28, 29, 30, 31, 32, 33, 34, 35, 36, 37, 38, 39, 40, 41, 42, 43, 44, 45, 46] (fun x => [(7, .int .i64 (x.k : Int)), (6, .slice x.a x.out.length x.c)]) (fun x => [QG 5 1 x.a x.c x.out.length (Xr x.out), A1, A0, A2]) (fun x => L.length - x.k) ⟨0, [], none, 0⟩ ?_ (by repeat (first | exact FrLe.nil | refine FrLe.cons rfl ?_)) ?_ ?_
  ·exact ⟨Nat.zero_le _, if_pos (by rw [List.length_map]; omega), Nat.zero_le _⟩
  ·exact Ent.own_nil (Ent.refl _)
  ·rintro ⟨k, out, a, c⟩ ⟨hk1, ho, hol⟩
   dsimp only at hk1 ho hol ⊢
   refine Qb (Qb (Qa (Qc rfl rfl (Qc rfl rfl (QC rfl rfl (Q7 rfl rfl rfl (WpL.nil (Ql rfl (fun h2 => ?_) (fun h2 => ?_)))))))))
   ·have hlt : k < L.length := by omega
    have hlk : k < ks.length := by omega
    have hgk := hgd _ (List.getElem_mem hlt)
    have hjs := jnF_at (ms := L.map (·.1)) (ks := ks) (k := k) (by rw [List.length_map]; exact hlt) hlk out
    rw [List.getElem_map, ← ho] at hjs
    refine Wp.skip (Qb (Wp.block ?_))
    refine Qb ?_
    apply Xs (fB := []) mixed [(8, false)] (by kernel_rfl)
    apply Xk [⟨0, 22, _, [], false⟩, ⟨1, 23, _, [], false⟩, ⟨2, 24, _, [0, 1], false⟩, ⟨3, 25, _, [2], false⟩, ⟨4, 26, _, [], false⟩, ⟨5, 27, _, [], false⟩, ⟨6, 28, _, [4, 5], false⟩, ⟨7, 29, _, [6], false⟩] [] [0, 1, 2, 3, 4, 5, 6, 7] [21, 31, 32, 8, 9] (.inr rfl) rfl rfl rfl (by kernel_rfl) rfl rfl rfl
    ·refine AllF.cons rfl rfl rfl rfl ?_ ?_
     ·exact Qc rfl rfl (Qm rfl)
     refine AllF.cons rfl rfl rfl rfl ?_ ?_
     ·exact Qc rfl rfl (Qm rfl)
     refine AllF.cons rfl rfl rfl rfl ?_ ?_
     ·refine Zp (s := 5) k rfl rfl rfl hL (by exact Take.ent' (by repeat' constructor)) rfl (by omega) (iC_ne (by omega)) ?_
      exact Qm rfl
     refine AllF.cons rfl rfl rfl rfl ?_ ?_
     ·refine ZU (vs := iC L[k]) rfl rfl hL (by exact Take.ent' (by repeat' constructor)) (iC_ne (by omega)) rfl (Zf (s := 5) (f := iC) (fun _ => rfl) L k hlt) ?_
      exact Qm rfl
     refine AllF.cons rfl rfl rfl rfl ?_ ?_
     ·exact Qc rfl rfl (Qm rfl)
     refine AllF.cons rfl rfl rfl rfl ?_ ?_
     ·exact Qc rfl rfl (Qm rfl)
     refine AllF.cons rfl rfl rfl rfl ?_ ?_
     ·refine Q4 k rfl rfl rfl hk (by exact Take.ent' (by repeat' constructor)) rfl (by omega) (by rw [QT]; omega) ?_
      exact Qm rfl
     refine AllF.cons rfl rfl rfl rfl ?_ ?_
     ·refine Q5 rfl rfl hk (by exact Take.ent' (by repeat' constructor)) (Xi ks hlk) ?_
      exact Qm rfl
     exact AllF.nil
    ·refine Qh rfl rfl (by repeat' constructor) (rWriteG_spec A0 L[k].1 L[k].2.1 L[k].2.2 (hpx _ (List.getElem_mem hlt)) most hmo hgk ks[k]) ?_
     intro v0 m0 hN0
     rcases hN0 with ⟨hkm, B, b8, e8, hB, -, rfl, rfl⟩ | ⟨hkm, rfl, rfl⟩
     ·simp only [Qr]
      rw [if_pos hkm] at hjs
      have hwl := wrI_len hmo hgk hkm
      refine WpL.nil ⟨rfl, rfl, ?_⟩
      apply GoR.nil [⟨9, 21, _, [8], false⟩, ⟨10, 31, _, [9], false⟩, ⟨11, 32, _, [9], false⟩, ⟨12, 8, _, [0, 1, 2, 3, 4, 5, 6, 7, 8, 9, 10], false⟩, ⟨13, 9, _, [0, 1, 2, 3, 4, 5, 6, 7, 8, 9, 10, 11, 12], false⟩] (.inr rfl) rfl rfl
      ·refine AllF.cons rfl rfl rfl rfl ?_ ?_
       ·exact Qc rfl rfl (Qm rfl)
       refine AllF.cons rfl rfl rfl rfl ?_ ?_
       ·exact QH rfl rfl rfl (Qm rfl)
       refine AllF.cons rfl rfl rfl rfl ?_ ?_
       ·exact QH rfl rfl rfl (Qm rfl)
       refine AllF.cons rfl rfl rfl rfl ?_ ?_
       ·exact Qe rfl rfl (Qm rfl)
       refine AllF.cons rfl rfl rfl rfl ?_ ?_
       ·exact Qe rfl rfl (Qm rfl)
       exact AllF.nil
      ·refine Qb (Qb (Qa (Qc rfl rfl (Xn rfl rfl rfl (WpL.nil (Qz rfl (fun h => h rfl) ?_))))))
       refine Wp.skip (Qb (Qa (Qc rfl rfl (Qc rfl rfl (s_appR (m2 := (YY L[k].1 ks[k]).length) rfl rfl rfl (by repeat' constructor) hB (by exact Take.ent' (by repeat' constructor)) (by rw [Xa, Nat.mul_one]) (by rfl) (by rfl) (YM _) (by omega) (by omega) ?_)))))
       intro a38 c38
       rw [Zy, ← List.length_append]
       have hl38 : (out ++ (YY L[k].1 ks[k])).length = out.length + (YY L[k].1 ks[k]).length := List.length_append
       refine Qe rfl rfl (WpL.nil (Qb (Qa (Qc rfl rfl (Qc rfl rfl (Q4 k rfl rfl rfl hk (by exact Take.ent' (by repeat' constructor)) rfl (by omega) (by rw [QT]; omega) ?_))))))
       refine Q5 rfl rfl hk (by exact Take.ent' (by repeat' constructor)) (Xi ks hlk) ?_
       refine Q7 rfl rfl rfl (WpL.nil (Ql rfl (fun h4 => ?_) (fun h4 => ?_)))
       ·refine Qa (Qc rfl rfl ?_)
        refine Yb rfl rfl rfl rfl ?_
        intro g1
        refine XA rfl rfl rfl (by repeat' constructor) (by rfl) (by rfl) (by rfl) (by rfl) (by omega) (by omega) ?_
        intro a46 c46
        rw [YJ, show (out ++ (YY L[k].1 ks[k])).length + 1 = ((out ++ (YY L[k].1 ks[k])) ++ [10]).length from by simp only [List.length_append, List.length_cons, List.length_nil, Nat.zero_add]]
        refine Qe rfl rfl (WpL.nil (Qa (Qc rfl rfl (QD rfl rfl rfl (Qu (by omega) (by omega)) ?_))))
        refine Qe rfl rfl (WpL.nil (Qv (⟨k + 1, out ++ (YY L[k].1 ks[k]) ++ [10], a46, c46⟩ : KdX) ?_ ?_ (by ((repeat (first | exact Top.refl | refine Top.push rfl ?_)); done)) (by repeat (first | exact FrLe.nil | refine FrLe.cons rfl ?_)) ?_))
        ·exact ⟨by simp only; omega, by simp only; rw [hjs, if_pos (by omega)], by simp only [List.length_append, List.length_cons, List.length_nil]; omega⟩
        ·simp only; omega
        ·exact Take.ent' (by repeat' constructor)
       ·refine Wp.skip (Qa (Qc rfl rfl (QD rfl rfl rfl (Qu (by omega) (by omega)) ?_)))
        refine Qe rfl rfl (WpL.nil (Qv (⟨k + 1, out ++ (YY L[k].1 ks[k]), a38, c38⟩ : KdX) ?_ ?_ (by ((repeat (first | exact Top.refl | refine Top.push rfl ?_)); done)) (by repeat (first | exact FrLe.nil | refine FrLe.cons rfl ?_)) ?_))
        ·exact ⟨by simp only; omega, by simp only; rw [hjs, if_neg (by omega), List.append_nil], by simp only [List.length_append]; omega⟩
        ·simp only; omega
        ·exact Take.ent' (by repeat' constructor)
     ·simp only [Qr]
      rw [if_neg hkm] at hjs
      refine WpL.nil ⟨rfl, rfl, ?_⟩
      apply GoR.nil [⟨9, 21, _, [8], false⟩, ⟨10, 31, _, [9], false⟩, ⟨11, 32, _, [9], false⟩, ⟨12, 8, _, [0, 1, 2, 3, 4, 5, 6, 7, 8, 9, 10], false⟩, ⟨13, 9, _, [0, 1, 2, 3, 4, 5, 6, 7, 8, 9, 10, 11, 12], false⟩] (.inr rfl) rfl rfl
      ·refine AllF.cons rfl rfl rfl rfl ?_ ?_
       ·exact Qc rfl rfl (Qm rfl)
       refine AllF.cons rfl rfl rfl rfl ?_ ?_
       ·exact QH rfl rfl rfl (Qm rfl)
       refine AllF.cons rfl rfl rfl rfl ?_ ?_
       ·exact QH rfl rfl rfl (Qm rfl)
       refine AllF.cons rfl rfl rfl rfl ?_ ?_
       ·exact Qe rfl rfl (Qm rfl)
       refine AllF.cons rfl rfl rfl rfl ?_ ?_
       ·exact Qe rfl rfl (Qm rfl)
       exact AllF.nil
      ·refine Qb (Qb (Qa (Qc rfl rfl (Xn rfl rfl rfl (WpL.nil (QU rfl (by decide) (Qb (Qa (Qc rfl rfl (Qe rfl rfl (Qe rfl rfl (WpL.nil ?_))))))))))))
       refine Qi ?_
       apply RetQ.mk
       ·exact (QB rfl rfl rfl)
       ·rw [hjs]
        exact ⟨none, 0, rfl, rfl⟩
       ·exact Ent.own_nil (Take.ent' (by repeat' constructor))
   ·have hkE : k = L.length := by omega
    rw [jnX_dr (by rw [List.length_map]; exact hkE.symm)] at ho
    refine QM (Qb (Qa (Qc rfl rfl (Qe rfl rfl (Qe rfl rfl (WpL.nil (Qi ?_)))))))
    apply RetQ.mk
    ·exact (QB rfl rfl rfl)
    ·rw [ho]
     exact ⟨a, c, rfl, rfl⟩
    ·exact Ent.refl _

theorem pJoin_spec (A1 A0 A2 : HP) (la : Option Addr) (lc : Nat) (L : ImL) (hL : RdsL [A1] la (mCs L)) (hpx : ∀ r ∈ L, RdsL [A0] r.2.1 (Xp r.1.px)) (hcp : ∀ r ∈ L, r.1.px.length ≤ r.2.2) (most : Int) (hmo : most ≤ 100) (hgd : ∀ r ∈ L, YG most r.1) (hl : L.length ≤ 1000) (ka : Option Addr) (kc : Nat) (ks : List Int) (hk : RdsL [A2] ka (QY ks)) : Fn Tryz.prog 31 #[.slice la L.length lc, .slice ka ks.length kc] [A1, A0, A2] (fun v l => ∃ a c, v = .tuple #[.slice a (jnX (L.map (·.1)) ks).1.length c, .int .i64 (jnX (L.map (·.1)) ks).2] ∧ l = [QG 5 1 a c (jnX (L.map (·.1)) ks).1.length (Xr (jnX (L.map (·.1)) ks).1), A1, A0, A2]) := by
 refine Qk (vs := [.slice la L.length lc, .slice ka ks.length kc]) Tryz.func31 rfl Tryz.ntmps31 rfl (Qb (Qa (Qe rfl rfl (Qe rfl rfl (WpL.nil (Qb (Qb (Qa (Qc rfl rfl (QC rfl rfl (Qc rfl rfl (QC rfl rfl ?_))))))))))))
 refine Xn rfl rfl rfl (WpL.nil (Ql rfl (fun h0 => ?_) (fun h0 => ?_)))
 ·refine Qb (Qa (Qe rfl rfl (Qe rfl rfl (WpL.nil (Qi ?_)))))
  apply RetQ.mk
  ·exact (QB rfl rfl rfl)
  ·rw [show jnX (L.map (·.1)) ks = ([], 1) from if_neg (by rw [List.length_map]; omega)]
   exact ⟨none, 0, rfl, rfl⟩
  ·exact Ent.own_nil (Take.ent' (by repeat' constructor))
 ·have hll : L.length = ks.length := by omega
  refine Wp.skip (Qb (Qa (Qe rfl rfl (WpL.nil (Qb (Qb (Qa (Qc rfl rfl (QC rfl rfl (Qc rfl rfl (WpL.nil (Wp.block ?_))))))))))))
  refine Wp.loopD (σ := KdX) (fun x => x.k ≤ L.length ∧ jnX (L.map (·.1)) ks = jnF ((L.map (·.1)).drop x.k) (ks.drop x.k) x.out ∧ x.out.length ≤ x.k * 3000001) [4, 5, 6, 7, 8, 9, 10, 18, 19, 20, 21, 22, 23, 24, 25, 26, 27, 28, 29, 30, 31, 32, 33, 34, 35, 36, 37, 38, 39, 40, 41, 42, 43, 44, 45, 46] (fun x => [(18, .int .i64 (x.k : Int)), (6, .slice x.a x.out.length x.c)]) (fun x => [QG 5 1 x.a x.c x.out.length (Xr x.out), A1, A0, A2]) (fun x => L.length - x.k) ⟨0, [], none, 0⟩ ?_ (by repeat (first | exact FrLe.nil | refine FrLe.cons rfl ?_)) ?_ ?_
  ·exact ⟨Nat.zero_le _, if_pos (by rw [List.length_map]; omega), Nat.zero_le _⟩
  ·exact Ent.own_nil (Ent.refl _)
  ·rintro ⟨k, out, a, c⟩ ⟨hk1, ho, hol⟩
   dsimp only at hk1 ho hol ⊢
   refine Qb (Qa (Q7 rfl rfl rfl (WpL.nil (Qb (Ql rfl (fun h2 => ?_) (fun h2 => ?_))))))
   ·have hlt : k < L.length := by omega
    have hlk : k < ks.length := by omega
    have hgk := hgd _ (List.getElem_mem hlt)
    have hjs := jnF_at (ms := L.map (·.1)) (ks := ks) (k := k) (by rw [List.length_map]; exact hlt) hlk out
    rw [List.getElem_map, ← ho] at hjs
    refine Wp.skip (Qb (Wp.block ?_))
    refine Qb (Qa (Qc rfl rfl (Zp (s := 5) k rfl rfl rfl hL (by exact Take.ent' (by repeat' constructor)) rfl (by omega) (mCs_ne L hlt) ?_)))
    refine ZU (vs := [.int .i64 L[k].1.c, .int .i64 L[k].1.m, .int .i64 L[k].1.w, .int .i64 L[k].1.h, .slice L[k].2.1 L[k].1.px.length L[k].2.2]) rfl rfl hL (by exact Take.ent' (by repeat' constructor)) (mCs_ne L hlt) rfl (mCs_seg L hlt) ?_
    refine YE rfl ?_
    intro g1
    refine Qe rfl rfl ?_
    refine XL rfl rfl rfl (by rfl) rfl ?_
    refine WpL.nil (Qb ?_)
    apply Xs (fB := []) mixed [(5, false)] (by kernel_rfl)
    apply Xk [⟨0, 24, _, [], false⟩, ⟨1, 25, _, [], false⟩, ⟨2, 26, _, [], false⟩, ⟨3, 27, _, [1, 2], false⟩, ⟨4, 28, _, [3], false⟩] [] [0, 1, 2, 3, 4] [23, 30, 31, 9, 10] (.inr rfl) rfl rfl rfl (by kernel_rfl) rfl rfl rfl
    ·refine AllF.cons rfl rfl rfl rfl ?_ ?_
     ·refine QI (vs := [_, _, _, _, _]) rfl rfl rfl (by rfl) ?_
      exact Qm rfl
     refine AllF.cons rfl rfl rfl rfl ?_ ?_
     ·exact Qc rfl rfl (Qm rfl)
     refine AllF.cons rfl rfl rfl rfl ?_ ?_
     ·exact Qc rfl rfl (Qm rfl)
     refine AllF.cons rfl rfl rfl rfl ?_ ?_
     ·refine Q4 k rfl rfl rfl hk (by exact Take.ent' (by repeat' constructor)) rfl (by omega) (by rw [QT]; omega) ?_
      exact Qm rfl
     refine AllF.cons rfl rfl rfl rfl ?_ ?_
     ·refine Q5 rfl rfl hk (by exact Take.ent' (by repeat' constructor)) (Xi ks hlk) ?_
      exact Qm rfl
     exact AllF.nil
    ·refine Qh rfl rfl (by repeat' constructor) (iWriteG_spec A0 L[k].1 L[k].2.1 L[k].2.2 (hpx _ (List.getElem_mem hlt)) (hcp _ (List.getElem_mem hlt)) most hmo hgk ks[k]) ?_
     intro v0 m0 hN0
     rcases hN0 with ⟨hkm, g8, e8, -, rfl, rfl⟩ | ⟨hkm, rfl, rfl⟩
     ·simp only [Qr]
      rw [if_pos hkm] at hjs
      have hwl := wrI_len hmo hgk hkm
      refine WpL.nil ⟨rfl, rfl, ?_⟩
      apply GoR.nil [⟨6, 23, _, [5], false⟩, ⟨7, 30, _, [6], false⟩, ⟨8, 31, _, [6], false⟩, ⟨9, 9, _, [0, 1, 2, 3, 4, 5, 6, 7], false⟩, ⟨10, 10, _, [0, 1, 2, 3, 4, 5, 6, 7, 8, 9], false⟩] (.inr rfl) rfl rfl
      ·refine AllF.cons rfl rfl rfl rfl ?_ ?_
       ·exact Qc rfl rfl (Qm rfl)
       refine AllF.cons rfl rfl rfl rfl ?_ ?_
       ·exact QH rfl rfl rfl (Qm rfl)
       refine AllF.cons rfl rfl rfl rfl ?_ ?_
       ·exact QH rfl rfl rfl (Qm rfl)
       refine AllF.cons rfl rfl rfl rfl ?_ ?_
       ·exact Qe rfl rfl (Qm rfl)
       refine AllF.cons rfl rfl rfl rfl ?_ ?_
       ·exact Qe rfl rfl (Qm rfl)
       exact AllF.nil
      ·refine Qb (Qb (Qa (Qc rfl rfl (Xn rfl rfl rfl (WpL.nil (Qz rfl (fun h => h rfl) ?_))))))
       refine Wp.skip (Qb (Qa (Qc rfl rfl (Qc rfl rfl (s_appR (m2 := (YY L[k].1 ks[k]).length) rfl rfl rfl (by repeat' constructor) RdsL.rdo (by exact Take.ent' (by repeat' constructor)) (by rw [Xa, Nat.mul_one]) (by rfl) (by rfl) (YM _) (by omega) (by omega) ?_)))))
       intro a37 c37
       rw [Zy, ← List.length_append]
       have hl37 : (out ++ (YY L[k].1 ks[k])).length = out.length + (YY L[k].1 ks[k]).length := List.length_append
       refine Qe rfl rfl (WpL.nil (Qb (Qa (Qc rfl rfl (Qc rfl rfl (Q4 k rfl rfl rfl hk (by exact Take.ent' (by repeat' constructor)) rfl (by omega) (by rw [QT]; omega) ?_))))))
       refine Q5 rfl rfl hk (by exact Take.ent' (by repeat' constructor)) (Xi ks hlk) ?_
       refine s_le rfl rfl rfl (WpL.nil (Ql rfl (fun h4 => ?_) (fun h4 => ?_)))
       ·refine Qa (Qc rfl rfl ?_)
        refine Yb rfl rfl rfl rfl ?_
        intro g2
        refine XA rfl rfl rfl (by repeat' constructor) (by rfl) (by rfl) (by rfl) (by rfl) (by omega) (by omega) ?_
        intro a45 c45
        rw [YJ, show (out ++ (YY L[k].1 ks[k])).length + 1 = ((out ++ (YY L[k].1 ks[k])) ++ [10]).length from by simp only [List.length_append, List.length_cons, List.length_nil, Nat.zero_add]]
        refine Qe rfl rfl (WpL.nil (Qa (QD rfl rfl rfl (Qu (by omega) (by omega)) ?_)))
        refine Qc rfl rfl (WpL.nil (Qv (⟨k + 1, out ++ (YY L[k].1 ks[k]) ++ [10], a45, c45⟩ : KdX) ?_ ?_ (by ((repeat (first | exact Top.refl | refine Top.push rfl ?_)); done)) (by repeat (first | exact FrLe.nil | refine FrLe.cons rfl ?_)) ?_))
        ·exact ⟨by simp only; omega, by simp only; rw [hjs, if_pos (by omega)], by simp only [List.length_append, List.length_cons, List.length_nil]; omega⟩
        ·simp only; omega
        ·exact Take.ent' (by repeat' constructor)
       ·refine Wp.skip (Qa (QD rfl rfl rfl (Qu (by omega) (by omega)) ?_))
        refine Qc rfl rfl (WpL.nil (Qv (⟨k + 1, out ++ (YY L[k].1 ks[k]), a37, c37⟩ : KdX) ?_ ?_ (by ((repeat (first | exact Top.refl | refine Top.push rfl ?_)); done)) (by repeat (first | exact FrLe.nil | refine FrLe.cons rfl ?_)) ?_))
        ·exact ⟨by simp only; omega, by simp only; rw [hjs, if_neg (by omega), List.append_nil], by simp only [List.length_append]; omega⟩
        ·simp only; omega
        ·exact Take.ent' (by repeat' constructor)
     ·simp only [Qr]
      rw [if_neg hkm] at hjs
      refine WpL.nil ⟨rfl, rfl, ?_⟩
      apply GoR.nil [⟨6, 23, _, [5], false⟩, ⟨7, 30, _, [6], false⟩, ⟨8, 31, _, [6], false⟩, ⟨9, 9, _, [0, 1, 2, 3, 4, 5, 6, 7], false⟩, ⟨10, 10, _, [0, 1, 2, 3, 4, 5, 6, 7, 8, 9], false⟩] (.inr rfl) rfl rfl
      ·refine AllF.cons rfl rfl rfl rfl ?_ ?_
       ·exact Qc rfl rfl (Qm rfl)
       refine AllF.cons rfl rfl rfl rfl ?_ ?_
       ·exact QH rfl rfl rfl (Qm rfl)
       refine AllF.cons rfl rfl rfl rfl ?_ ?_
       ·exact QH rfl rfl rfl (Qm rfl)
       refine AllF.cons rfl rfl rfl rfl ?_ ?_
       ·exact Qe rfl rfl (Qm rfl)
       refine AllF.cons rfl rfl rfl rfl ?_ ?_
       ·exact Qe rfl rfl (Qm rfl)
       exact AllF.nil
      ·refine Qb (Qb (Qa (Qc rfl rfl (Xn rfl rfl rfl (WpL.nil (QU rfl (by decide) (Qb (Qa (Qc rfl rfl (Qe rfl rfl (Qe rfl rfl (WpL.nil ?_))))))))))))
       refine Qi ?_
       apply RetQ.mk
       ·exact (QB rfl rfl rfl)
       ·rw [hjs]
        exact ⟨none, 0, rfl, rfl⟩
       ·exact Ent.own_nil (Take.ent' (by repeat' constructor))
   ·have hkE : k = L.length := by omega
    rw [jnX_dr (by rw [List.length_map]; exact hkE.symm)] at ho
    refine QM (Qb (Qa (Qc rfl rfl (Qe rfl rfl (Qe rfl rfl (WpL.nil (Qi ?_)))))))
    apply RetQ.mk
    ·exact (QB rfl rfl rfl)
    ·rw [ho]
     exact ⟨a, c, rfl, rfl⟩
    ·exact Ent.refl _

end Go.Proofs.YtggamdlpiejbiaaGreat
namespace Go.Proofs.YtggamdlpiejbiaaGreat
open Go.RowKit Go.Shelf

instance : FOffA Tryz.prog 71 0 0 := ⟨fun _ _ => by kernel_rfl⟩
instance : FOffA Tryz.prog 71 1 2 := ⟨fun _ _ => by kernel_rfl⟩
instance : FOffA Tryz.prog 69 0 0 := ⟨fun _ _ => by kernel_rfl⟩
instance : FOffA Tryz.prog 69 1 1 := ⟨fun _ _ => by kernel_rfl⟩
instance : FOffA Tryz.prog 69 2 2 := ⟨fun _ _ => by kernel_rfl⟩
theorem lof_spec (As : List HP) (La : ImL) (aO : Option Addr) (cO : Nat) (hA : RdsL As aO (mCs La)) (hl : La.length ≤ 1000000000) : Fn Tryz.prog 32 #[.slice aO La.length cO] As (fun v l => ∃ a' c', v = .slice a' La.length c' ∧ l = QG 79 5 a' c' La.length (mCs La) :: As) := by
 refine Qk (vs := [.slice aO La.length cO]) Tryz.func32 rfl Tryz.ntmps32 rfl (Qb (Qa (Qe rfl rfl (WpL.nil (Qb (Qa (Qe rfl rfl (WpL.nil (Qb (Qb (Qa (Qe rfl rfl ?_))))))))))))
 refine WpL.nil (Wp.block ?_)
 refine Wp.loopD (σ := AsX) (fun x => x.k ≤ La.length) [3, 4, 5, 6, 7, 8, 9, 10, 11, 12, 13, 14, 15, 16, 17, 18, 19, 20, 21, 22, 23, 24, 25, 26, 27, 28, 29, 30, 31, 32, 33, 34, 35, 36, 37, 38] (fun x => [(4, .int .i64 (x.k : Int)), (3, .slice x.a x.k x.c)]) (fun x => QG 79 5 x.a x.c x.k (mCs (La.take x.k)) :: As) (fun x => La.length - x.k) ⟨0, none, 0⟩ ?_ (by repeat (first | exact FrLe.nil | refine FrLe.cons rfl ?_)) ?_ ?_
 ·exact Nat.zero_le _
 ·exact Ent.own_nil (Ent.refl _)
 ·rintro ⟨k, a1, c1⟩ hk
  dsimp only at hk ⊢
  refine Qb (Qb (Qa (Qc rfl rfl (Qc rfl rfl (QC rfl rfl (Q7 rfl rfl rfl (WpL.nil (Ql rfl (fun h1 => ?_) (fun h1 => ?_)))))))))
  ·have hk1 : k < La.length := by omega
   have hne := mCs_ne La hk1
   refine Wp.skip (Qb (Wp.block ?_))
   apply Wp.drawEN (fB := []) mixed 28 [11, 12, 13, 14, 15, 16, 17, 18, 19, 20, 21, 22, 23, 24, 25, 26, 27, 28, 29, 30, 31, 32, 33, 34, 35, 36, 37, 38] [(26, false), (0, false)] (by kernel_rfl) (by kernel_rfl) (by kernel_rfl) (by kernel_rfl)
   apply Xk [⟨0, 11, _, [], true⟩, ⟨1, 12, _, [], false⟩, ⟨2, 13, _, [], false⟩, ⟨3, 14, _, [1, 2], false⟩, ⟨4, 15, _, [3], false⟩, ⟨5, 16, _, [4], false⟩, ⟨6, 17, _, [], false⟩, ⟨7, 18, _, [], false⟩, ⟨8, 19, _, [6, 7], false⟩, ⟨9, 20, _, [8], false⟩, ⟨10, 21, _, [9], false⟩, ⟨11, 22, _, [10], false⟩, ⟨12, 23, _, [], false⟩, ⟨13, 24, _, [], false⟩, ⟨14, 25, _, [12, 13], false⟩, ⟨15, 26, _, [14], false⟩, ⟨16, 27, _, [15], false⟩, ⟨17, 28, _, [16], false⟩, ⟨18, 29, _, [], false⟩, ⟨19, 30, _, [], false⟩, ⟨20, 31, _, [18, 19], false⟩, ⟨21, 32, _, [20], false⟩, ⟨22, 33, _, [21], false⟩, ⟨23, 34, _, [22], false⟩, ⟨24, 35, _, [11, 17, 23], false⟩, ⟨25, 36, _, [5, 24], false⟩] [] [1, 2, 3, 4, 5, 6, 7, 8, 9, 10, 11, 12, 13, 14, 15, 16, 17, 18, 19, 20, 21, 22, 23, 24, 25] [38, 11] (.inl ⟨_, .nil⟩) rfl rfl rfl (by kernel_rfl) rfl rfl rfl
   ·refine XQ rfl rfl rfl rfl ?_ ?_
    ·exact Qc rfl rfl (Qm rfl)
    refine AllF.cons rfl rfl rfl rfl ?_ ?_
    ·exact Qc rfl rfl (Qm rfl)
    refine AllF.cons rfl rfl rfl rfl ?_ ?_
    ·exact Qc rfl rfl (Qm rfl)
    refine AllF.cons rfl rfl rfl rfl ?_ ?_
    ·refine Zp (s := 5) k rfl rfl rfl hA (by (repeat (first | exact Ent.refl _ | refine Ent.drop ?_))) rfl (by omega) hne ?_
     exact Qm rfl
    refine AllF.cons rfl rfl rfl rfl ?_ ?_
    ·refine ZF (k * 5 + 0) rfl rfl hA (by (repeat (first | exact Ent.refl _ | refine Ent.drop ?_))) hne rfl ?_
     exact Qm rfl
    refine AllF.cons rfl rfl rfl rfl ?_ ?_
    ·refine ZU (vs := [.int .i64 La[k].1.c, .int .i64 La[k].1.m]) rfl rfl hA (by (repeat (first | exact Ent.refl _ | refine Ent.drop ?_))) hne rfl (mCs_two La hk1) ?_
     exact Qm rfl
    refine AllF.cons rfl rfl rfl rfl ?_ ?_
    ·exact Qc rfl rfl (Qm rfl)
    refine AllF.cons rfl rfl rfl rfl ?_ ?_
    ·exact Qc rfl rfl (Qm rfl)
    refine AllF.cons rfl rfl rfl rfl ?_ ?_
    ·refine Zp (s := 5) k rfl rfl rfl hA (by (repeat (first | exact Ent.refl _ | refine Ent.drop ?_))) rfl (by omega) hne ?_
     exact Qm rfl
    refine AllF.cons rfl rfl rfl rfl ?_ ?_
    ·refine ZF (k * 5 + 2) rfl rfl hA (by (repeat (first | exact Ent.refl _ | refine Ent.drop ?_))) hne rfl ?_
     exact Qm rfl
    refine AllF.cons rfl rfl rfl rfl ?_ ?_
    ·refine ZF (k * 5 + 2) rfl rfl hA (by (repeat (first | exact Ent.refl _ | refine Ent.drop ?_))) hne rfl ?_
     exact Qm rfl
    refine AllF.cons rfl rfl rfl rfl ?_ ?_
    ·refine Q5 rfl rfl hA (by (repeat (first | exact Ent.refl _ | refine Ent.drop ?_))) (mCs_at La hk1 (j := 2) (by decide)) ?_
     exact Qm rfl
    refine AllF.cons rfl rfl rfl rfl ?_ ?_
    ·exact Qc rfl rfl (Qm rfl)
    refine AllF.cons rfl rfl rfl rfl ?_ ?_
    ·exact Qc rfl rfl (Qm rfl)
    refine AllF.cons rfl rfl rfl rfl ?_ ?_
    ·refine Zp (s := 5) k rfl rfl rfl hA (by (repeat (first | exact Ent.refl _ | refine Ent.drop ?_))) rfl (by omega) hne ?_
     exact Qm rfl
    refine AllF.cons rfl rfl rfl rfl ?_ ?_
    ·refine ZF (k * 5 + 2) rfl rfl hA (by (repeat (first | exact Ent.refl _ | refine Ent.drop ?_))) hne rfl ?_
     exact Qm rfl
    refine AllF.cons rfl rfl rfl rfl ?_ ?_
    ·refine ZF (k * 5 + 3) rfl rfl hA (by (repeat (first | exact Ent.refl _ | refine Ent.drop ?_))) hne rfl ?_
     exact Qm rfl
    refine AllF.cons rfl rfl rfl rfl ?_ ?_
    ·refine Q5 rfl rfl hA (by (repeat (first | exact Ent.refl _ | refine Ent.drop ?_))) (mCs_at La hk1 (j := 3) (by decide)) ?_
     exact Qm rfl
    refine AllF.cons rfl rfl rfl rfl ?_ ?_
    ·exact Qc rfl rfl (Qm rfl)
    refine AllF.cons rfl rfl rfl rfl ?_ ?_
    ·exact Qc rfl rfl (Qm rfl)
    refine AllF.cons rfl rfl rfl rfl ?_ ?_
    ·refine Zp (s := 5) k rfl rfl rfl hA (by (repeat (first | exact Ent.refl _ | refine Ent.drop ?_))) rfl (by omega) hne ?_
     exact Qm rfl
    refine AllF.cons rfl rfl rfl rfl ?_ ?_
    ·refine ZF (k * 5 + 2) rfl rfl hA (by (repeat (first | exact Ent.refl _ | refine Ent.drop ?_))) hne rfl ?_
     exact Qm rfl
    refine AllF.cons rfl rfl rfl rfl ?_ ?_
    ·refine ZF (k * 5 + 4) rfl rfl hA (by (repeat (first | exact Ent.refl _ | refine Ent.drop ?_))) hne rfl ?_
     exact Qm rfl
    refine AllF.cons rfl rfl rfl rfl ?_ ?_
    ·refine Q5 rfl rfl hA (by (repeat (first | exact Ent.refl _ | refine Ent.drop ?_))) (mCs_at La hk1 (j := 4) (by decide)) ?_
     exact Qm rfl
    refine AllF.cons rfl rfl rfl rfl ?_ ?_
    ·refine YI rfl rfl ?_
     exact Qm rfl
    refine AllF.cons rfl rfl rfl rfl ?_ ?_
    ·refine YI rfl rfl ?_
     exact Qm rfl
    exact AllF.nil
   ·refine Vi rfl rfl (by rfl) (by rfl) (by rfl) (by rfl) ?_
    intro g1
    refine WpL.nil ⟨rfl, rfl, ?_⟩
    apply Xk [] [0] [0] [] (.inl ⟨_, .nil⟩) rfl rfl rfl (by kernel_rfl) rfl rfl rfl
    ·exact AllF.nil
    ·refine XA rfl rfl rfl (by repeat' constructor) (by rfl) (by rfl) (by rfl) (by rfl) (by omega) (by omega) ?_
     intro a38 c38
     refine WpL.nil ⟨rfl, rfl, ?_⟩
     apply GoR.nil [] (.inr rfl) rfl rfl
     ·exact AllF.nil
     ·show WpL _ _ _ _ _ _ _ _
      refine Qe rfl rfl (WpL.nil (Qa (Qc rfl rfl (QD rfl rfl rfl (Qu (by omega) (by omega)) ?_))))
      refine Qe rfl rfl (WpL.nil (Qv ⟨k + 1, a38, c38⟩ ?_ ?_ (by ((repeat (first | exact Top.refl | refine Top.push rfl ?_)); done)) (by repeat (first | exact FrLe.nil | refine FrLe.cons rfl ?_)) ?_))
      ·simp only; omega
      ·simp only; omega
      ·dsimp only
       rw [mCs_snoc La hk1]
       exact Ent.refl _
  ·obtain rfl : k = La.length := by omega
   rw [List.take_length]
   refine QM (Qb (Qa (Qc rfl rfl (Qe rfl rfl (WpL.nil (Qi ?_))))))
   apply RetQ.mk
   ·exact (Res.one rfl rfl)
   ·exact ⟨a1, c1, rfl, rfl⟩
   ·exact Ent.refl _

end Go.Proofs.YtggamdlpiejbiaaGreat
