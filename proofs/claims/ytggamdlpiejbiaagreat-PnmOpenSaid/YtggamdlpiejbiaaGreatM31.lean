/- Walks and plain laws, a part of the proof of PnmOpen: every input that the law's guards let in, no condition beside. -/
import Derived.Lib.ConvBytes
import Derived.Test.YtggamdlpiejbiaaGreatM30
namespace Go.Proofs.YtggamdlpiejbiaaGreat
open Go.RowKit Go.Shelf


/-- The bits of a byte so far. -/
def hv (l : List Int) (j : Nat) : Nat → Int
  | 0 => 0
  | t + 1 => hv l j t * 2 + (l[8 * j + t]?.getD 0)
theorem hv_T {l : List Int} {j t : Nat} (h : 8 * j + t < l.length) : hv l j (t + 1) = hv l j t * 2 + l[8 * j + t] := by
  rw [hv, List.getElem?_eq_getElem h]
  rfl
theorem hv_F {l : List Int} {j t : Nat} (h : l.length ≤ 8 * j + t) : hv l j (t + 1) = hv l j t * 2 := by
  rw [hv, List.getElem?_eq_none h]
  simp
theorem hv_pow {l : List Int} (h : ∀ x ∈ l, bitv x) (j : Nat) : ∀ t, 0 ≤ hv l j t ∧ hv l j t < 2 ^ t
  | 0 => by simp [hv]
  | t + 1 => by
    have ih := hv_pow h j t
    have h2 : (2 : Int) ^ (t + 1) = 2 ^ t * 2 := Int.pow_succ ..
    rcases Nat.lt_or_ge (8 * j + t) l.length with hl | hl
    · rw [hv_T hl, h2]
      have hb := h _ (List.getElem_mem hl)
      unfold bitv at hb
      omega
    · rw [hv_F hl, h2]
      omega
theorem hv_bd {l : List Int} (h : ∀ x ∈ l, bitv x) (j : Nat) {t : Nat} (ht : t ≤ 8) : 0 ≤ hv l j t ∧ hv l j t ≤ 255 := by
  have h1 := hv_pow h j t
  have h2 : (2 : Int) ^ t ≤ 256 := (show ∀ s : Fin 9, (2 : Int) ^ s.val ≤ 256 by decide) ⟨t, by omega⟩
  omega
theorem hv_8 (l : List Int) (j : Nat) : hv l j 8 = byteAt l j := by
  unfold byteAt byteOf
  simp only [hv, ← List.getElem?_drop]
  generalize l.drop (8 * j) = ys
  rcases ys with _ | ⟨a, _ | ⟨b, _ | ⟨c, _ | ⟨d, _ | ⟨e, _ | ⟨f, _ | ⟨g, _ | ⟨h, ys⟩⟩⟩⟩⟩⟩⟩⟩ <;> simp only [bw, List.getElem?_cons_zero, List.getElem?_cons_succ, List.getElem?_nil, Option.getD_some, Option.getD_none, List.take_succ_cons, List.take_nil, List.take_zero, Nat.reduceSub, Int.reducePow] <;> omega
theorem packB_end {l : List Int} {k : Nat} (h : l.length ≤ 8 * k) (hk : k ≤ (l.length + 7) / 8) : (List.range k).map (byteAt l) = packB l := by rw [packB, show k = (l.length + 7) / 8 by omega]

theorem rPack07_spec (A0 : HP) (a0 : Option Addr) (c0 : Nat) (row : List Int) (hA : RdsL [A0] a0 (ints row)) (hb : ∀ x ∈ row, bitv x) (h1 : 1 ≤ row.length) (h2 : row.length ≤ 4096) : Fn Tryz.prog 121 #[.slice a0 row.length c0] [A0] (fun v l => ∃ a c, v = .tuple #[.slice a (packB row).length c, .int .i64 0] ∧ l = [own 5 1 a c (packB row).length (u8s (packB row)), A0]) := by
  refine Fn.intro (vs := [.slice a0 row.length c0]) Tryz.func121 rfl Tryz.ntmps121 rfl ?_
  refine Wp.seq ?_
  refine Wp.region ?_
  refine s_as rfl rfl ?_
  refine s_as rfl rfl ?_
  refine WpL.nil ?_
  refine Wp.seq ?_
  refine Wp.seq ?_
  refine Wp.region ?_
  refine s_mv rfl rfl ?_
  refine s_lenl rfl rfl ?_
  refine s_lt rfl rfl rfl ?_
  refine s_mv rfl rfl ?_
  refine WpL.knowF (dj := 11) rfl (decide_eq_false (by omega)) ?_
  refine WpL.gon rfl rfl ?_
  refine s_mv rfl rfl ?_
  refine WpL.gon rfl rfl ?_
  refine s_lenl rfl rfl ?_
  refine WpL.gon rfl rfl ?_
  refine s_gt rfl rfl rfl ?_
  refine s_pickF rfl rfl rfl ?_
  refine WpL.nil ?_
  refine Wp.condD rfl (fun h0 => ?_) (fun h0 => ?_)
  · exfalso; omega
  · refine Wp.skip ?_
    refine Wp.seq ?_
    refine Wp.region ?_
    refine s_as rfl rfl ?_
    refine WpL.nil ?_
    refine Wp.seq ?_
    refine Wp.seq ?_
    refine Wp.region ?_
    refine s_as rfl rfl ?_
    refine WpL.nil ?_
    refine Wp.block ?_
    refine Wp.loopD (σ := KdX) (fun x => x.k ≤ (row.length + 7) / 8 ∧ x.out = (List.range x.k).map (byteAt row)) [2, 3, 4, 5, 6, 7, 16, 17, 18, 19, 20, 21, 22, 23, 24, 25, 26, 27, 28, 29, 30, 31, 32, 33, 34, 35, 36, 37, 38, 39, 40, 41, 42, 43, 44, 45, 46, 47, 48, 49, 50, 51, 52, 53, 54, 55, 56, 57] (fun x => [(5, .int .i64 (8 * (x.k : Int))), (4, .slice x.a x.out.length x.c)]) (fun x => [own 5 1 x.a x.c x.out.length (u8s x.out), A0]) (fun x => (row.length + 7) / 8 - x.k) ⟨0, [], none, 0⟩ ?_ (by repeat (first | exact FrLe.nil | refine FrLe.cons rfl ?_)) ?_ ?_
    · exact ⟨Nat.zero_le _, rfl⟩
    · exact Ent.own_nil (Ent.refl _)
    · rintro ⟨k, out, a, c⟩ ⟨hk, ho⟩
      dsimp only at hk ho ⊢
      have hol : out.length = k := by rw [ho]; simp
      refine Wp.seq ?_
      refine Wp.seq ?_
      refine Wp.region ?_
      refine s_mv rfl rfl ?_
      refine s_mv rfl rfl ?_
      refine s_lenl rfl rfl ?_
      refine s_lt rfl rfl rfl ?_
      refine WpL.nil ?_
      refine Wp.condD rfl (fun h2 => ?_) (fun h2 => ?_)
      · have hlt : 8 * k < row.length := by omega
        refine Wp.skip ?_
        refine Wp.seq ?_
        refine Wp.block ?_
        refine Wp.seq ?_
        refine Wp.region ?_
        refine s_as rfl rfl ?_
        refine WpL.nil ?_
        refine Wp.seq ?_
        refine Wp.seq ?_
        refine Wp.region ?_
        refine s_mv rfl rfl ?_
        refine s_as rfl rfl ?_
        refine WpL.nil ?_
        refine Wp.block ?_
        refine Wp.loopD (σ := Nat) (fun t => t ≤ 8) [2, 3, 6, 7, 23, 24, 25, 26, 27, 28, 29, 30, 31, 32, 33, 34, 35, 36, 37, 38, 39, 40, 41, 42, 43, 44, 45, 46, 47, 48, 49, 50, 51, 52] (fun t => [(7, .int .i64 (8 * (k : Int) + (t : Int))), (6, .int .i64 (hv row k t))]) (fun t => [own 5 1 a c out.length (u8s out), A0]) (fun t => 8 - t) 0 ?_ (FrLe.cons (by first | exact congrArg (fun z => some (Value.int .i64 z)) (show 8 * (k : Int) = 8 * (k : Int) + ((0 : Nat) : Int) by omega)) (FrLe.cons rfl FrLe.nil)) ?_ ?_
        · exact Nat.zero_le _
        · exact Ent.refl _
        · rintro t ht
          have hvb := hv_bd hb k ht
          refine Wp.seq ?_
          refine Wp.seq ?_
          refine Wp.region ?_
          refine s_mv rfl rfl ?_
          refine s_mv rfl rfl ?_
          first | refine s_add rfl rfl rfl (w_i64 (by omega) (by omega)) ?_ | refine s_addw rfl rfl rfl ?_
          refine s_lt rfl rfl rfl ?_
          refine WpL.nil ?_
          refine Wp.condD rfl (fun h4 => ?_) (fun h4 => ?_)
          · have ht7 : t < 8 := by omega
            refine Wp.skip ?_
            refine Wp.seq ?_
            refine Wp.block ?_
            refine Wp.seq ?_
            refine Wp.region ?_
            refine s_mv rfl rfl ?_
            first | refine s_mul rfl rfl rfl (w_i64 (by omega) (by omega)) ?_ | refine s_mulw rfl rfl rfl ?_
            refine s_as rfl rfl ?_
            refine WpL.nil ?_
            refine Wp.seq ?_
            refine Wp.region ?_
            refine s_mv rfl rfl ?_
            refine s_mv rfl rfl ?_
            refine s_lenl rfl rfl ?_
            refine s_lt rfl rfl rfl ?_
            refine WpL.nil ?_
            refine Wp.condD rfl (fun h5 => ?_) (fun h5 => ?_)
            · have hl8 : 8 * k + t < row.length := by omega
              have hbk := hb _ (List.getElem_mem hl8)
              unfold bitv at hbk
              refine Wp.seq ?_
              refine Wp.seq ?_
              refine Wp.region ?_
              refine s_mv rfl rfl ?_
              refine s_mv rfl rfl ?_
              refine s_ixa (8 * k + t) rfl rfl rfl hA (by first | exact Take.ent' (by repeat' constructor) | (repeat (first | exact Ent.refl _ | refine Ent.drop ?_))) (by omega) (by omega) (by rw [ints_len]; omega) ?_
              refine s_ldx rfl rfl hA (by first | exact Take.ent' (by repeat' constructor) | (repeat (first | exact Ent.refl _ | refine Ent.drop ?_))) (ints_at row hl8) ?_
              refine s_ne rfl rfl rfl ?_
              refine s_mv rfl rfl ?_
              refine WpL.grd rfl rfl rfl (fun hg2 => ?_) (fun hg2 => ?_)
              · have hg2 := of_decide_eq_true hg2
                refine s_mv rfl rfl ?_
                refine WpL.gon rfl rfl ?_
                refine s_mv rfl rfl ?_
                refine WpL.gon rfl rfl ?_
                refine s_ixa (8 * k + t) rfl rfl rfl hA (by first | exact Take.ent' (by repeat' constructor) | (repeat (first | exact Ent.refl _ | refine Ent.drop ?_))) (by omega) (by omega) (by rw [ints_len]; omega) ?_
                refine WpL.gon rfl rfl ?_
                refine s_ldx rfl rfl hA (by first | exact Take.ent' (by repeat' constructor) | (repeat (first | exact Ent.refl _ | refine Ent.drop ?_))) (ints_at row hl8) ?_
                refine WpL.gon rfl rfl ?_
                refine s_ne rfl rfl rfl ?_
                refine s_pickT rfl rfl rfl ?_
                refine WpL.nil ?_
                refine Wp.condD rfl (fun h6 => ?_) (fun h6 => ?_)
                · exfalso; omega
                · refine Wp.skip ?_
                  refine Wp.region ?_
                  refine s_mv rfl rfl ?_
                  refine s_mv rfl rfl ?_
                  refine s_mv rfl rfl ?_
                  refine s_ixa (8 * k + t) rfl rfl rfl hA (by first | exact Take.ent' (by repeat' constructor) | (repeat (first | exact Ent.refl _ | refine Ent.drop ?_))) (by omega) (by omega) (by rw [ints_len]; omega) ?_
                  refine s_ldx rfl rfl hA (by first | exact Take.ent' (by repeat' constructor) | (repeat (first | exact Ent.refl _ | refine Ent.drop ?_))) (ints_at row hl8) ?_
                  first | refine s_add rfl rfl rfl (w_i64 (by omega) (by omega)) ?_ | refine s_addw rfl rfl rfl ?_
                  refine s_as rfl rfl ?_
                  refine WpL.nil ?_
                  refine Wp.region ?_
                  refine s_mv rfl rfl ?_
                  first | refine s_add rfl rfl rfl (w_i64 (by omega) (by omega)) ?_ | refine s_addw rfl rfl rfl ?_
                  refine s_as rfl rfl ?_
                  refine WpL.nil ?_
                  refine loopD.next (t + 1) ?_ ?_ (by first | ((repeat (first | exact Top.refl | refine Top.push rfl ?_ | refine Top.drop rfl ?_)); done) | exact Top.le (by repeat (first | exact FrLe.nil | refine FrLe.cons rfl ?_))) (FrLe.cons (by first | exact congrArg (fun z => some (Value.int .i64 z)) (show 8 * (k : Int) + (t : Int) + 1 = 8 * (k : Int) + ((t + 1 : Nat) : Int) by omega)) (FrLe.cons (by first | exact congrArg (fun z => some (Value.int .i64 z)) ((hv_T hl8).symm) | exact congrArg (fun z => some (Value.int .i64 z)) (hv_F hl8).symm) FrLe.nil)) ?_
                  · omega
                  · omega
                  · first | exact Ent.refl _ | exact Ent.nil _ | exact Take.ent' (by repeat' constructor) | (repeat (first | exact Ent.refl _ | refine Ent.drop ?_))
              · have hg2 := of_decide_eq_false hg2
                refine WpL.goff rfl rfl rfl (by decide) ?_
                refine WpL.goff rfl rfl rfl (by decide) ?_
                refine WpL.goff rfl rfl rfl (by decide) ?_
                refine WpL.goff rfl rfl rfl (by decide) ?_
                refine s_pickF rfl rfl rfl ?_
                refine WpL.nil ?_
                refine Wp.condF rfl ?_
                refine Wp.skip ?_
                refine Wp.region ?_
                refine s_mv rfl rfl ?_
                refine s_mv rfl rfl ?_
                refine s_mv rfl rfl ?_
                refine s_ixa (8 * k + t) rfl rfl rfl hA (by first | exact Take.ent' (by repeat' constructor) | (repeat (first | exact Ent.refl _ | refine Ent.drop ?_))) (by omega) (by omega) (by rw [ints_len]; omega) ?_
                refine s_ldx rfl rfl hA (by first | exact Take.ent' (by repeat' constructor) | (repeat (first | exact Ent.refl _ | refine Ent.drop ?_))) (ints_at row hl8) ?_
                first | refine s_add rfl rfl rfl (w_i64 (by omega) (by omega)) ?_ | refine s_addw rfl rfl rfl ?_
                refine s_as rfl rfl ?_
                refine WpL.nil ?_
                refine Wp.region ?_
                refine s_mv rfl rfl ?_
                first | refine s_add rfl rfl rfl (w_i64 (by omega) (by omega)) ?_ | refine s_addw rfl rfl rfl ?_
                refine s_as rfl rfl ?_
                refine WpL.nil ?_
                refine loopD.next (t + 1) ?_ ?_ (by first | ((repeat (first | exact Top.refl | refine Top.push rfl ?_ | refine Top.drop rfl ?_)); done) | exact Top.le (by repeat (first | exact FrLe.nil | refine FrLe.cons rfl ?_))) (FrLe.cons (by first | exact congrArg (fun z => some (Value.int .i64 z)) (show 8 * (k : Int) + (t : Int) + 1 = 8 * (k : Int) + ((t + 1 : Nat) : Int) by omega)) (FrLe.cons (by first | exact congrArg (fun z => some (Value.int .i64 z)) ((hv_T hl8).symm) | exact congrArg (fun z => some (Value.int .i64 z)) (hv_F hl8).symm) FrLe.nil)) ?_
                · omega
                · omega
                · first | exact Ent.refl _ | exact Ent.nil _ | exact Take.ent' (by repeat' constructor) | (repeat (first | exact Ent.refl _ | refine Ent.drop ?_))
            · have hl8 : row.length ≤ 8 * k + t := by omega
              refine Wp.skip ?_
              refine Wp.region ?_
              refine s_mv rfl rfl ?_
              first | refine s_add rfl rfl rfl (w_i64 (by omega) (by omega)) ?_ | refine s_addw rfl rfl rfl ?_
              refine s_as rfl rfl ?_
              refine WpL.nil ?_
              refine loopD.next (t + 1) ?_ ?_ (by first | ((repeat (first | exact Top.refl | refine Top.push rfl ?_ | refine Top.drop rfl ?_)); done) | exact Top.le (by repeat (first | exact FrLe.nil | refine FrLe.cons rfl ?_))) (FrLe.cons (by first | exact congrArg (fun z => some (Value.int .i64 z)) (show 8 * (k : Int) + (t : Int) + 1 = 8 * (k : Int) + ((t + 1 : Nat) : Int) by omega)) (FrLe.cons (by first | exact congrArg (fun z => some (Value.int .i64 z)) ((hv_T hl8).symm) | exact congrArg (fun z => some (Value.int .i64 z)) (hv_F hl8).symm) FrLe.nil)) ?_
              · omega
              · omega
              · first | exact Ent.refl _ | exact Ent.nil _ | exact Take.ent' (by repeat' constructor) | (repeat (first | exact Ent.refl _ | refine Ent.drop ?_))
          · obtain rfl : t = 8 := by omega
            rw [hv_8]
            have hbb := byteAt_bd hb k
            refine Wp.exit ?_
            refine Wp.region ?_
            refine s_mv rfl rfl ?_
            refine s_mv rfl rfl ?_
            refine s_cvi rfl Tryz.underlying3 rfl (w_u8 (by omega) (by omega)) ?_
            refine s_bs1 rfl rfl rfl rfl ?_
            intro g1
            refine s_app1 rfl rfl rfl (by repeat' constructor) (by rfl) (by rfl) (by rfl) (by rfl) (by omega) (by omega) ?_
            intro a57 c57
            rw [u8s_snoc, show out.length + 1 = (out ++ [(byteAt row k)]).length from by simp]
            refine s_as rfl rfl ?_
            refine WpL.nil ?_
            refine Wp.region ?_
            refine s_mv rfl rfl ?_
            first | refine s_add rfl rfl rfl (w_i64 (by omega) (by omega)) ?_ | refine s_addw rfl rfl rfl ?_
            refine s_as rfl rfl ?_
            refine WpL.nil ?_
            refine loopD.next (⟨k + 1, out ++ [byteAt row k], a57, c57⟩ : KdX) ?_ ?_ (by first | ((repeat (first | exact Top.refl | refine Top.push rfl ?_ | refine Top.drop rfl ?_)); done) | exact Top.le (by repeat (first | exact FrLe.nil | refine FrLe.cons rfl ?_))) (FrLe.cons (by first | exact congrArg (fun z => some (Value.int .i64 z)) (show 8 * (k : Int) + 8 = 8 * ((k + 1 : Nat) : Int) by omega)) (FrLe.cons rfl FrLe.nil)) ?_
            · exact ⟨by simp only; omega, by simp only; rw [List.range_succ, List.map_append, ho]; rfl⟩
            · simp only; omega
            · first | exact Ent.refl _ | exact Ent.nil _ | exact Take.ent' (by repeat' constructor) | (repeat (first | exact Ent.refl _ | refine Ent.drop ?_))
      · have ho2 : out = packB row := by rw [ho, packB_end (by omega) hk]
        subst ho2
        refine Wp.exit ?_
        refine Wp.seq ?_
        refine Wp.region ?_
        refine s_mv rfl rfl ?_
        refine s_as rfl rfl ?_
        refine s_as rfl rfl ?_
        refine WpL.nil ?_
        refine Wp.ret ?_
        apply RetQ.mk
        · exact (Res.two rfl rfl rfl)
        · exact ⟨a, c, rfl, rfl⟩
        · first | exact Ent.refl _ | exact Ent.nil _ | exact Take.ent' (by repeat' constructor) | (repeat (first | exact Ent.refl _ | refine Ent.drop ?_))

end Go.Proofs.YtggamdlpiejbiaaGreat
namespace Go.Proofs.YtggamdlpiejbiaaGreat
open Go.RowKit Go.Shelf


/-- How far a raw raster's bytes are made. -/
def WrI (K : Int) (W w : Nat) (px : List Int) (i y x : Nat) (out row : List Int) : Prop :=
  (K = 4 ∧ i = y * W + x ∧ x < W ∧ row = ((px.drop (y * W)).take x).flatMap unpackS ∧ out = wrRaw K W w px y) ∨ (K ≠ 4 ∧ row = [] ∧ out = ((px.take i).flatMap unpackS).flatMap (encS w))
theorem WrI.zero {K : Int} {W w : Nat} {px : List Int} (hW : 1 ≤ W) : WrI K W w px 0 0 0 [] [] := by
  by_cases h : K = 4
  · exact .inl ⟨h, by simp, by omega, by simp, by simp [wrRaw, wrRows]⟩
  · exact .inr ⟨h, rfl, by simp⟩
theorem dt_snoc {px : List Int} {y W x : Nat} (h : y * W + x < px.length) : (px.drop (y * W)).take (x + 1) = (px.drop (y * W)).take x ++ [px[y * W + x]] := by
  rw [take_snocG _ (by rw [List.length_drop]; omega), List.getElem_drop]
theorem WrI.row {K : Int} {W w : Nat} {px : List Int} {i y x : Nat} {out row : List Int} (h : WrI K W w px i y x out row) (hK : K = 4) (hi : i < px.length) : ((px.drop (y * W)).take (x + 1)).flatMap unpackS = row ++ unpackS px[i] := by
  rcases h with ⟨_, h1, _, h2, _⟩ | ⟨h1, _⟩
  · subst h1
    rw [dt_snoc hi, List.flatMap_append, h2]
    simp
  · exact absurd hK h1
theorem WrI.four {K : Int} {W w : Nat} {px : List Int} {i y x : Nat} {out row : List Int} (h : WrI K W w px i y x out row) (hK : K = 4) (hi : i < px.length) (hx : x + 1 < W) : WrI K W w px (i + 1) y (x + 1) out (row ++ unpackS px[i]) := by
  have hr := h.row hK hi
  rcases h with ⟨_, h1, _, h2, h3⟩ | ⟨h1, _⟩
  · exact .inl ⟨hK, by omega, hx, hr.symm, h3⟩
  · exact absurd hK h1
theorem WrI.full {K : Int} {W w : Nat} {px : List Int} {i y x : Nat} {out row : List Int} (h : WrI K W w px i y x out row) (hK : K = 4) (hi : i < px.length) (hx : x + 1 = W) : WrI K W w px (i + 1) (y + 1) 0 (out ++ packB (row ++ unpackS px[i])) [] := by
  have hr := h.row hK hi
  rcases h with ⟨_, h1, _, h2, h3⟩ | ⟨h1, _⟩
  · refine .inl ⟨hK, by rw [Nat.add_mul]; omega, by omega, by simp, ?_⟩
    rw [wrRaw_succ, h3, ← hr, hx]
    unfold rowB
    rw [if_pos hK]
  · exact absurd hK h1
theorem WrI.more {K : Int} {W w : Nat} {px : List Int} {i y x : Nat} {out row : List Int} (h : WrI K W w px i y x out row) (hK : K ≠ 4) (hi : i < px.length) : WrI K W w px (i + 1) y x (out ++ (unpackS px[i]).flatMap (encS w)) [] := by
  rcases h with ⟨h1, _⟩ | ⟨_, _, h2⟩
  · exact absurd h1 hK
  · refine .inr ⟨hK, rfl, ?_⟩
    rw [take_snocG px hi, List.flatMap_append, List.flatMap_append, h2]
    simp
theorem WrI.rown {K : Int} {W w : Nat} {px : List Int} {i y x : Nat} {out row : List Int} (h : WrI K W w px i y x out row) (hK : K ≠ 4) : row = [] := by
  rcases h with ⟨h1, _⟩ | ⟨_, h2, _⟩
  · exact absurd h1 hK
  · exact h2
theorem wr_flat {K : Int} {W w : Nat} {px : List Int} (hK : K ≠ 4) : ∀ n, wrRaw K W w px n = ((px.take (n * W)).flatMap unpackS).flatMap (encS w)
  | 0 => by simp [wrRaw, wrRows]
  | n + 1 => by
    rw [wrRaw_succ, wr_flat hK n, rowB, if_neg hK, Nat.add_mul, Nat.one_mul, List.take_add, List.flatMap_append, List.flatMap_append]
theorem WrI.done {K : Int} {W w : Nat} {px : List Int} {i y x H : Nat} {out row : List Int} (h : WrI K W w px i y x out row) (hW : 1 ≤ W) (hi : i = px.length) (hp : px.length = W * H) : out = wrRaw K W w px H := by
  rcases h with ⟨_, h1, h2, _, h3⟩ | ⟨h1, _, h2⟩
  · have e : y * W + x = H * W := by rw [← h1, hi, hp, Nat.mul_comm]
    have hy : y = H := by
      rcases Nat.lt_trichotomy y H with hl | hl | hl
      · have := Nat.mul_le_mul_right W (show y + 1 ≤ H from hl)
        rw [Nat.add_mul] at this
        omega
      · exact hl
      · have := Nat.mul_le_mul_right W (show H + 1 ≤ y from hl)
        rw [Nat.add_mul] at this
        omega
    rw [h3, hy]
  · rw [wr_flat h1, h2, hi, Nat.mul_comm H W, ← hp]

end Go.Proofs.YtggamdlpiejbiaaGreat
namespace Go.Proofs.YtggamdlpiejbiaaGreat
open Go.RowKit Go.Shelf

theorem rMay09_spec (K W H M : Int) (hM : RawH K W H M) : Fn Tryz.prog 120 #[.agg #[.int .i64 K, .int .i64 W, .int .i64 H, .int .i64 M]] [] (fun v l => v = .bool true ∧ l = []) := by
  refine Fn.intro (vs := [.agg #[.int .i64 K, .int .i64 W, .int .i64 H, .int .i64 M]]) Tryz.func120 rfl Tryz.ntmps120 rfl ?_
  refine Wp.seq ?_
  refine Wp.region ?_
  refine s_box rfl rfl rfl ?_
  intro gH
  refine s_as rfl rfl ?_
  refine WpL.nil ?_
  refine Wp.seq ?_
  refine Wp.region ?_
  refine s_lda (vs := [_, _, _, _]) rfl rfl rfl (by rfl) ?_
  refine s_callf rfl rfl (by repeat' constructor) (rMay06_spec _ _ _ _) ?_
  rintro _ _ ⟨rfl, rfl⟩
  simp only [napp]
  refine s_as rfl rfl ?_
  refine WpL.nil ?_
  refine Wp.seq ?_
  refine Wp.region ?_
  refine s_mv rfl rfl ?_
  refine s_mv rfl rfl ?_
  refine WpL.knowT (dj := 7) rfl (decide_eq_true hM.1) ?_
  refine WpL.gon rfl rfl ?_
  refine s_fa (o2 := 0) rfl rfl rfl ?_
  refine WpL.gon rfl rfl ?_
  refine s_ld rfl rfl (by rfl) ?_
  refine WpL.gon rfl rfl ?_
  refine s_gt rfl rfl rfl ?_
  refine s_pickT rfl rfl rfl ?_
  refine s_as rfl rfl ?_
  refine WpL.nil ?_
  refine Wp.ret ?_
  apply RetQ.mk
  · exact (Res.one rfl rfl)
  · exact ⟨congrArg Value.bool (decide_eq_true (by have := hM.2; omega)), rfl⟩
  · first | exact Ent.refl _ | exact Ent.nil _ | exact Take.ent' (by repeat' constructor) | (repeat (first | exact Ent.refl _ | refine Ent.drop ?_))


structure RwX where
  (i y x : Nat) (out row : List Int) (aO : Option Addr) (cO : Nat) (aR : Option Addr) (cR : Nat)
theorem one_list {l : List Int} (h : l.length = 1) (h0 : 0 < l.length) : [l[0]'h0] = l := by
  match l, h with
  | [q], _ => rfl
theorem enc_two {w : Nat} {x : Int} (h : ((w : Nat) : Int) = 2) : encS w x = [x / 256, x % 256] := by unfold encS; rw [if_neg (by omega)]
theorem enc_lo {M x : Int} (h : ¬ ((wideM M : Nat) : Int) = 2) (h0 : 0 ≤ x) (h1 : x ≤ M) : encS (wideM M) x = [x % 256] := by
  unfold wideM at h ⊢
  split at h
  · exact absurd rfl h
  · rename_i hm
    rw [if_neg hm]
    unfold encS
    rw [if_pos rfl]
    congr 1
    omega

set_option maxHeartbeats 2000000 in
theorem rWrite09_spec (A0 : HP) (a0 : Option Addr) (c0 : Nat) (px : List Int) (hA : RdsL [A0] a0 (pxs px)) (hr : ∀ p ∈ px, 0 ≤ p ∧ p < 18446744073709551616) (K : Int) (W H : Nat) (M : Int) (hR : RawH K (W : Int) (H : Int) M) (hpl : px.length = W * H) (hfit : ∀ p ∈ px, FitP p (chK K) M) (hl : px.length ≤ 1000000) : Fn Tryz.prog 70 #[.slice a0 px.length c0, .agg #[.int .i64 K, .int .i64 (W : Int), .int .i64 (H : Int), .int .i64 M]] [A0] (fun v l => ∃ a c, v = .tuple #[.slice a (wrRaw K W (wideM M) px H).length c, .int .i64 0] ∧ l = [own 5 1 a c (wrRaw K W (wideM M) px H).length (u8s (wrRaw K W (wideM M) px H)), A0]) := by
  have hM2 := hR.1
  unfold MayH at hM2
  have hcn : ∀ p ∈ px, Can (chK K) M p := fun p hp => can_of_fit (hr p hp).1 (hr p hp).2 (hfit p hp)
  have hpl2 : (px.length : Int) = (W : Int) * (H : Int) := by rw [hpl]; push_cast; rfl
  refine Fn.intro (vs := [.slice a0 px.length c0, .agg #[.int .i64 K, .int .i64 (W : Int), .int .i64 (H : Int), .int .i64 M]]) Tryz.func70 rfl Tryz.ntmps70 rfl ?_
  refine Wp.seq ?_
  refine Wp.region ?_
  refine s_box rfl rfl rfl ?_
  intro gH
  refine s_as rfl rfl ?_
  refine s_as rfl rfl ?_
  refine WpL.nil ?_
  refine Wp.seq ?_
  refine Wp.region ?_
  refine s_lda (vs := [_, _, _, _]) rfl rfl rfl (by rfl) ?_
  refine s_callf rfl rfl (by repeat' constructor) (rMay09_spec _ _ _ _ hR) ?_
  rintro _ _ ⟨rfl, rfl⟩
  simp only [napp]
  refine s_as rfl rfl ?_
  refine WpL.nil ?_
  refine Wp.seq ?_
  refine Wp.seq ?_
  refine Wp.region ?_
  refine s_mv rfl rfl ?_
  refine s_not rfl rfl ?_
  refine WpL.nil ?_
  refine Wp.condBF rfl (by decide) ?_
  refine Wp.skip ?_
  refine Wp.seq ?_
  refine Wp.seq ?_
  refine Wp.region ?_
  refine s_mv rfl rfl ?_
  refine s_lenl rfl rfl ?_
  refine s_fa (o2 := 1) rfl rfl rfl ?_
  refine s_ld rfl rfl (by rfl) ?_
  refine s_fa (o2 := 2) rfl rfl rfl ?_
  refine s_ld rfl rfl (by rfl) ?_
  refine s_mul rfl rfl rfl (w_i64 (by omega) (by omega)) ?_
  rw [← hpl2]
  refine s_ne rfl rfl rfl ?_
  refine WpL.nil ?_
  refine Wp.condDF rfl (fun hn => hn rfl) ?_
  refine Wp.skip ?_
  refine Wp.seq ?_
  refine Wp.region ?_
  refine s_as rfl rfl ?_
  refine WpL.nil ?_
  refine Wp.seq ?_
  refine Wp.region ?_
  refine s_as rfl rfl ?_
  refine WpL.nil ?_
  refine Wp.seq ?_
  refine Wp.seq ?_
  refine Wp.region ?_
  refine s_as rfl rfl ?_
  refine WpL.nil ?_
  refine Wp.block ?_
  refine Wp.loopD (σ := RwX) (fun x => x.i ≤ px.length ∧ WrI K W (wideM M) px x.i x.y x.x x.out x.row ∧ x.out.length + x.row.length ≤ 6 * x.i ∧ (K = 4 → x.row.length = x.x)) [4, 5, 7, 8, 9, 10, 11, 12, 13, 14, 27, 28, 29, 30, 31, 32, 33, 34, 35, 36, 37, 38, 39, 40, 41, 42, 43, 44, 45, 46, 47, 48, 49, 50, 51, 52, 53, 54, 55, 56, 57, 58, 59, 60, 61, 62, 63, 64, 65, 66, 67, 68, 69, 70, 71, 72, 73, 74, 75, 76, 77, 78, 79, 80, 81, 82, 83, 84, 85, 86, 87, 88, 89, 90, 91, 92, 93, 94, 95] (fun x => [(9, .int .i64 (x.i : Int)), (8, .slice x.aR x.row.length x.cR), (7, .slice x.aO x.out.length x.cO)]) (fun x => [own 5 1 x.aO x.cO x.out.length (u8s x.out), own 3 1 x.aR x.cR x.row.length (ints x.row), blk gH [.int .i64 K, .int .i64 (W : Int), .int .i64 (H : Int), .int .i64 M] 113, A0]) (fun x => px.length - x.i) ⟨0, 0, 0, [], [], none, 0, none, 0⟩ ?_ (by repeat (first | exact FrLe.nil | refine FrLe.cons rfl ?_)) ?_ ?_
  · exact ⟨Nat.zero_le _, WrI.zero (by omega), by simp, fun _ => rfl⟩
  · exact Ent.own_nil (Ent.own_nil (Ent.refl _))
  · rintro ⟨i, y, x, out, row, aO, cO, aR, cR⟩ ⟨hi, hI, hlen, hrl⟩
    dsimp only at hi hI hlen hrl ⊢
    refine Wp.seq ?_
    refine Wp.seq ?_
    refine Wp.region ?_
    refine s_mv rfl rfl ?_
    refine s_mv rfl rfl ?_
    refine s_lenl rfl rfl ?_
    refine s_lt rfl rfl rfl ?_
    refine WpL.nil ?_
    refine Wp.condD rfl (fun h3 => ?_) (fun h3 => ?_)
    · have hlt : i < px.length := by omega
      have hpb := hr _ (List.getElem_mem hlt)
      have hcan := hcn _ (List.getElem_mem hlt)
      have hul := unpackS_len px[i]
      refine Wp.skip ?_
      refine Wp.seq ?_
      refine Wp.block ?_
      refine Wp.seq ?_
      apply Wp.draw mixed [⟨33, _, []⟩, ⟨34, _, []⟩, ⟨35, _, [0, 1]⟩, ⟨36, _, [2]⟩, ⟨37, _, []⟩, ⟨38, _, [4]⟩, ⟨39, _, [3, 5]⟩, ⟨10, _, [6, 0, 1, 2, 3, 4, 5]⟩] rfl
      · refine AllObs.mk ?_ ?_
        · refine s_mv rfl rfl ?_
          exact obN rfl
        refine AllObs.mk ?_ ?_
        · refine s_mv rfl rfl ?_
          exact obN rfl
        refine AllObs.mk ?_ ?_
        · refine s_ixa i rfl rfl rfl hA (by first | exact Take.ent' (by repeat' constructor) | (repeat (first | exact Ent.refl _ | refine Ent.drop ?_))) rfl (by omega) (by rw [pxs_len]; omega) ?_
          exact obN rfl
        refine AllObs.mk ?_ ?_
        · refine s_ldx rfl rfl hA (by first | exact Take.ent' (by repeat' constructor) | (repeat (first | exact Ent.refl _ | refine Ent.drop ?_))) (pxs_at px hlt) ?_
          exact obN rfl
        refine AllObs.mk ?_ ?_
        · refine s_lda (vs := [_, _, _, _]) rfl rfl rfl (by rfl) ?_
          exact obN rfl
        refine AllObs.mk ?_ ?_
        · refine s_callf rfl rfl (by repeat' constructor) (rFormat_spec _ _ _ _ (by omega) (by omega)) ?_
          rintro _ _ ⟨rfl, rfl⟩
          simp only [napp]
          exact WpL.nil ⟨rfl, rfl, rfl, by first | exact Ent.refl _ | exact Ent.nil _ | exact Take.ent' (by repeat' constructor) | (repeat (first | exact Ent.refl _ | refine Ent.drop ?_))⟩
        refine AllObs.mk ?_ ?_
        · refine s_callf rfl rfl (by repeat' constructor) (rFits_spec _ _ _ hpb.1 hpb.2) ?_
          rintro _ _ ⟨rfl, rfl⟩
          simp only [napp]
          exact WpL.nil ⟨rfl, rfl, rfl, by first | exact Ent.refl _ | exact Ent.nil _ | exact Take.ent' (by repeat' constructor) | (repeat (first | exact Ent.refl _ | refine Ent.drop ?_))⟩
        refine AllObs.mk ?_ ?_
        · refine s_as rfl rfl ?_
          exact obN rfl
        exact AllObs.nil
      · refine Wp.seq ?_
        refine Wp.seq ?_
        refine Wp.region ?_
        refine s_mv rfl rfl ?_
        refine s_notD rfl rfl ?_
        refine WpL.nil ?_
        refine Wp.condD rfl (fun h4 => ?_) (fun h4 => ?_)
        · exfalso; exact absurd (hfit _ (List.getElem_mem hlt)) (by assumption)
        · refine Wp.skip ?_
          refine Wp.seq ?_
          refine Wp.region ?_
          refine s_mv rfl rfl ?_
          refine s_mv rfl rfl ?_
          refine s_ixa i rfl rfl rfl hA (by first | exact Take.ent' (by repeat' constructor) | (repeat (first | exact Ent.refl _ | refine Ent.drop ?_))) rfl (by omega) (by rw [pxs_len]; omega) ?_
          refine s_ldx rfl rfl hA (by first | exact Take.ent' (by repeat' constructor) | (repeat (first | exact Ent.refl _ | refine Ent.drop ?_))) (pxs_at px hlt) ?_
          refine s_callf rfl rfl (by repeat' constructor) (rUnpack_spec _ hpb.1 hpb.2) ?_
          rintro _ _ ⟨A1, a1, c1, rfl, rfl, hA1, hn1⟩
          simp only [napp]
          refine s_as rfl rfl ?_
          refine WpL.nil ?_
          refine Wp.seq ?_
          refine Wp.seq ?_
          refine Wp.region ?_
          refine s_fa (o2 := 0) rfl rfl rfl ?_
          refine s_ld rfl rfl (by rfl) ?_
          refine s_eq rfl rfl rfl ?_
          refine WpL.nil ?_
          refine Wp.condD rfl (fun h5 => ?_) (fun h5 => ?_)
          · have hM1 : M = 1 := by omega
            have hc4 : chK K = 1 := by rw [h5]; rfl
            have hu1 : (unpackS px[i]).length = 1 := by have := hcan.1; omega
            have hu0 : 0 < (unpackS px[i]).length := by omega
            have hus : [(unpackS px[i])[0]'hu0] = (unpackS px[i]) := one_list hu1 hu0
            have hbits : ∀ q ∈ row ++ (unpackS px[i]), bitv q := fun q hq => by
              rw [← hI.row h5 hlt] at hq
              obtain ⟨p, hp, hq⟩ := List.mem_flatMap.1 hq
              have h9 := (hcn p (List.mem_of_mem_drop (List.mem_of_mem_take hp))).2.2 q hq
              unfold bitv
              omega
            have hrx := hrl h5
            refine Wp.seq ?_
            refine Wp.region ?_
            refine s_mv rfl rfl ?_
            refine s_mv rfl rfl ?_
            refine s_ixa 0 rfl rfl rfl hA1 (by first | exact Take.ent' (by repeat' constructor) | (repeat (first | exact Ent.refl _ | refine Ent.drop ?_))) rfl (by omega) (by rw [ints_len]; omega) ?_
            refine s_ldx rfl rfl hA1 (by first | exact Take.ent' (by repeat' constructor) | (repeat (first | exact Ent.refl _ | refine Ent.drop ?_))) (ints_at (unpackS px[i]) hu0) ?_
            refine s_bs1 rfl rfl rfl rfl ?_
            intro g2
            refine s_app1 rfl rfl rfl (by repeat' constructor) (by rfl) (by rfl) (by rfl) (by rfl) (by omega) (by omega) ?_
            intro a55 c55
            rw [ints_snoc, show row.length + 1 = (row ++ [((unpackS px[i])[0]'hu0)]).length from by simp]
            rw [hus]
            refine s_as rfl rfl ?_
            refine WpL.nil ?_
            refine Wp.seq ?_
            refine Wp.seq ?_
            refine Wp.region ?_
            refine s_mv rfl rfl ?_
            refine s_lenl rfl rfl ?_
            refine s_fa (o2 := 1) rfl rfl rfl ?_
            refine s_ld rfl rfl (by rfl) ?_
            refine s_eq rfl rfl rfl ?_
            refine WpL.nil ?_
            refine Wp.condD rfl (fun h6 => ?_) (fun h6 => ?_)
            · have hxW : x + 1 = W := by simp only [List.length_append] at h6; omega
              refine Wp.seq ?_
              refine Wp.region ?_
              refine s_mv rfl rfl ?_
              refine s_callf rfl rfl (by repeat' constructor) (rPack07_spec _ a55 c55 (row ++ (unpackS px[i])) RdsL.own hbits (by simp only [List.length_append]; omega) (by simp only [List.length_append]; omega)) ?_
              rintro _ _ ⟨aP, cP, rfl, rfl⟩
              simp only [napp]
              have hpkl := packB_len (row ++ (unpackS px[i]))
              rw [List.length_append] at hpkl
              refine s_mv rfl rfl ?_
              refine s_ext rfl rfl rfl ?_
              refine s_ext rfl rfl rfl ?_
              refine s_as rfl rfl ?_
              refine s_as rfl rfl ?_
              refine WpL.nil ?_
              refine Wp.seq ?_
              refine Wp.region ?_
              refine s_mv rfl rfl ?_
              refine s_mv rfl rfl ?_
              refine s_appo rfl rfl rfl (by repeat' constructor) (by rfl) (by rfl) (u8s_one _) (by omega) (by omega) ?_
              intro a68 c68
              rw [u8s_app, ← List.length_append]
              refine s_as rfl rfl ?_
              refine WpL.nil ?_
              refine Wp.region ?_
              refine s_as rfl rfl ?_
              refine WpL.nil ?_
              refine Wp.exit ?_
              refine Wp.region ?_
              refine s_mv rfl rfl ?_
              first | refine s_add rfl rfl rfl (w_i64 (by omega) (by omega)) ?_ | refine s_addw rfl rfl rfl ?_
              refine s_as rfl rfl ?_
              refine WpL.nil ?_
              refine loopD.next (⟨i + 1, y + 1, 0, out ++ packB (row ++ (unpackS px[i])), [], a68, c68, none, 0⟩ : RwX) ?_ ?_ (by first | ((repeat (first | exact Top.refl | refine Top.push rfl ?_ | refine Top.drop rfl ?_)); done) | exact Top.le (by repeat (first | exact FrLe.nil | refine FrLe.cons rfl ?_))) (by repeat (first | exact FrLe.nil | refine FrLe.cons rfl ?_)) ?_
              · exact ⟨by simp only; omega, hI.full h5 hlt (by omega), by simp only [List.length_append, List.length_nil, packB_len]; omega, fun _ => rfl⟩
              · simp only; omega
              · refine Ent.trans (m := [own 5 1 a68 c68 (out ++ packB (row ++ (unpackS px[i]))).length (u8s (out ++ packB (row ++ (unpackS px[i])))), blk gH [.int .i64 K, .int .i64 (W : Int), .int .i64 (H : Int), .int .i64 M] 113, A0]) (Take.ent' (by repeat' constructor)) (Ent.cons (Ent.own_nil (Ent.refl _)))
            · have hxW : x + 1 ≠ W := fun q => h6 (by simp only [List.length_append]; omega)
              have hxl : x < W := by rcases hI with ⟨_, _, q, _⟩ | ⟨q, _⟩; exact q; exact absurd h5 q
              refine Wp.skip ?_
              refine Wp.exit ?_
              refine Wp.region ?_
              refine s_mv rfl rfl ?_
              first | refine s_add rfl rfl rfl (w_i64 (by omega) (by omega)) ?_ | refine s_addw rfl rfl rfl ?_
              refine s_as rfl rfl ?_
              refine WpL.nil ?_
              refine loopD.next (⟨i + 1, y, x + 1, out, row ++ (unpackS px[i]), aO, cO, a55, c55⟩ : RwX) ?_ ?_ (by first | ((repeat (first | exact Top.refl | refine Top.push rfl ?_ | refine Top.drop rfl ?_)); done) | exact Top.le (by repeat (first | exact FrLe.nil | refine FrLe.cons rfl ?_))) (by repeat (first | exact FrLe.nil | refine FrLe.cons rfl ?_)) ?_
              · exact ⟨by simp only; omega, hI.four h5 hlt (by omega), by simp only [List.length_append]; omega, fun q => by simp only [List.length_append]; have := hrl q; omega⟩
              · simp only; omega
              · exact Take.ent' (by repeat' constructor)
          · have hrn := hI.rown h5
            subst hrn
            refine Wp.skip ?_
            refine Wp.seq ?_
            refine Wp.region ?_
            refine s_as rfl rfl ?_
            refine WpL.nil ?_
            refine Wp.block ?_
            refine Wp.loopD (σ := KdX) (fun z => z.k ≤ (unpackS px[i]).length ∧ z.out = out ++ ((unpackS px[i]).take z.k).flatMap (encS (wideM M)) ∧ z.out.length ≤ out.length + 2 * z.k) [7, 14, 69, 70, 71, 72, 73, 74, 75, 76, 77, 78, 79, 80, 81, 82, 83, 84, 85, 86, 87, 88, 89, 90, 91, 92, 93, 94, 95] (fun z => [(14, .int .i64 (z.k : Int)), (7, .slice z.a z.out.length z.c)]) (fun z => [own 5 1 z.a z.c z.out.length (u8s z.out), A1, own 3 1 aR cR 0 (ints []), blk gH [.int .i64 K, .int .i64 (W : Int), .int .i64 (H : Int), .int .i64 M] 113, A0]) (fun z => (unpackS px[i]).length - z.k) ⟨0, out, aO, cO⟩ ?_ (by repeat (first | exact FrLe.nil | refine FrLe.cons rfl ?_)) ?_ ?_
            · exact ⟨Nat.zero_le _, by simp, by simp⟩
            · exact Take.ent' (by repeat' constructor)
            · rintro ⟨j, out2, a2, c2⟩ ⟨hj, ho2, hol2⟩
              dsimp only at hj ho2 hol2 ⊢
              refine Wp.seq ?_
              refine Wp.seq ?_
              refine Wp.region ?_
              refine s_mv rfl rfl ?_
              refine s_mv rfl rfl ?_
              refine s_lenl rfl rfl ?_
              refine s_lt rfl rfl rfl ?_
              refine WpL.nil ?_
              refine Wp.condD rfl (fun h8 => ?_) (fun h8 => ?_)
              · have hlj : j < (unpackS px[i]).length := by omega
                have huj := hcan.2.2 _ (List.getElem_mem hlj)
                refine Wp.skip ?_
                refine Wp.seq ?_
                refine Wp.block ?_
                refine Wp.seq ?_
                refine Wp.seq ?_
                refine Wp.region ?_
                refine s_lda (vs := [_, _, _, _]) rfl rfl rfl (by rfl) ?_
                refine s_callf rfl rfl (by repeat' constructor) (rwide_spec _ _ _ _) ?_
                rintro _ _ ⟨rfl, rfl⟩
                simp only [napp]
                refine s_eq rfl rfl rfl ?_
                refine WpL.nil ?_
                refine Wp.condD rfl (fun h9 => ?_) (fun h9 => ?_)
                · refine Wp.region ?_
                  refine s_mv rfl rfl ?_
                  refine s_mv rfl rfl ?_
                  refine s_mv rfl rfl ?_
                  refine s_ixa j rfl rfl rfl hA1 (by first | exact Take.ent' (by repeat' constructor) | (repeat (first | exact Ent.refl _ | refine Ent.drop ?_))) rfl (by omega) (by rw [ints_len]; omega) ?_
                  refine s_ldx rfl rfl hA1 (by first | exact Take.ent' (by repeat' constructor) | (repeat (first | exact Ent.refl _ | refine Ent.drop ?_))) (ints_at (unpackS px[i]) hlj) ?_
                  refine s_quo rfl rfl rfl (by omega) (by omega) (w_i64 (by omega) (by omega)) ?_
                  refine s_cvi rfl Tryz.underlying3 rfl (w_u8 (by omega) (by omega)) ?_
                  refine s_bs1 rfl rfl rfl rfl ?_
                  intro g3
                  refine s_app1 rfl rfl rfl (by repeat' constructor) (by rfl) (by rfl) (by rfl) (by rfl) (by omega) (by omega) ?_
                  intro a86 c86
                  rw [u8s_snoc, show out2.length + 1 = (out2 ++ [(((unpackS px[i])[j]'hlj) / 256)]).length from by simp]
                  have hl1 : (out2 ++ [((unpackS px[i])[j]'hlj) / 256]).length = out2.length + 1 := by simp
                  refine s_as rfl rfl ?_
                  refine WpL.nil ?_
                  refine Wp.region ?_
                  refine s_mv rfl rfl ?_
                  refine s_mv rfl rfl ?_
                  refine s_mv rfl rfl ?_
                  refine s_ixa j rfl rfl rfl hA1 (by first | exact Take.ent' (by repeat' constructor) | (repeat (first | exact Ent.refl _ | refine Ent.drop ?_))) rfl (by omega) (by rw [ints_len]; omega) ?_
                  refine s_ldx rfl rfl hA1 (by first | exact Take.ent' (by repeat' constructor) | (repeat (first | exact Ent.refl _ | refine Ent.drop ?_))) (ints_at (unpackS px[i]) hlj) ?_
                  refine s_rem rfl rfl rfl (by omega) (by omega) ?_
                  refine s_cvi rfl Tryz.underlying3 rfl (w_u8 (by omega) (by omega)) ?_
                  refine s_bs1 rfl rfl rfl rfl ?_
                  intro g4
                  first
                    | (refine s_app1 rfl rfl rfl (by repeat' constructor) (by rfl) (by rfl) (by rfl) (by rfl) (by omega) (by omega) ?_; intro a95 c95; rw [u8s_snoc, show (out2 ++ [((unpackS px[i])[j]'hlj) / 256]).length + 1 = ((out2 ++ [((unpackS px[i])[j]'hlj) / 256]) ++ [(((unpackS px[i])[j]'hlj) % 256)]).length from by simp])
                    | (refine s_app1 rfl rfl rfl (by repeat' constructor) (by rfl) (by rfl) (by rfl) (by rfl) (by omega) (by omega) ?_; intro a95 c95; rw [u8s_snoc, show out2.length + 1 = (out2 ++ [(((unpackS px[i])[j]'hlj) % 256)]).length from by simp])
                  refine s_as rfl rfl ?_
                  refine WpL.nil ?_
                  refine Wp.region ?_
                  refine s_mv rfl rfl ?_
                  first | refine s_add rfl rfl rfl (w_i64 (by omega) (by omega)) ?_ | refine s_addw rfl rfl rfl ?_
                  refine s_as rfl rfl ?_
                  refine WpL.nil ?_
                  refine loopD.next (⟨j + 1, out2 ++ [((unpackS px[i])[j]'hlj) / 256] ++ [((unpackS px[i])[j]'hlj) % 256], a95, c95⟩ : KdX) ?_ ?_ (by first | ((repeat (first | exact Top.refl | refine Top.push rfl ?_ | refine Top.drop rfl ?_)); done) | exact Top.le (by repeat (first | exact FrLe.nil | refine FrLe.cons rfl ?_))) (by repeat (first | exact FrLe.nil | refine FrLe.cons rfl ?_)) ?_
                  · exact ⟨by simp only; omega, by simp only; rw [ho2, ← enc_snoc hlj, enc_two h9]; simp, by simp only [List.length_append, List.length_cons, List.length_nil]; omega⟩
                  · simp only; omega
                  · first | exact Ent.refl _ | exact Ent.nil _ | exact Take.ent' (by repeat' constructor) | (repeat (first | exact Ent.refl _ | refine Ent.drop ?_))
                · refine Wp.skip ?_
                  refine Wp.region ?_
                  refine s_mv rfl rfl ?_
                  refine s_mv rfl rfl ?_
                  refine s_mv rfl rfl ?_
                  refine s_ixa j rfl rfl rfl hA1 (by first | exact Take.ent' (by repeat' constructor) | (repeat (first | exact Ent.refl _ | refine Ent.drop ?_))) rfl (by omega) (by rw [ints_len]; omega) ?_
                  refine s_ldx rfl rfl hA1 (by first | exact Take.ent' (by repeat' constructor) | (repeat (first | exact Ent.refl _ | refine Ent.drop ?_))) (ints_at (unpackS px[i]) hlj) ?_
                  refine s_rem rfl rfl rfl (by omega) (by omega) ?_
                  refine s_cvi rfl Tryz.underlying3 rfl (w_u8 (by omega) (by omega)) ?_
                  refine s_bs1 rfl rfl rfl rfl ?_
                  intro g5
                  first
                    | (refine s_app1 rfl rfl rfl (by repeat' constructor) (by rfl) (by rfl) (by rfl) (by rfl) (by omega) (by omega) ?_; intro a95 c95; rw [u8s_snoc, show (out2 ++ [((unpackS px[i])[j]'hlj) / 256]).length + 1 = ((out2 ++ [((unpackS px[i])[j]'hlj) / 256]) ++ [(((unpackS px[i])[j]'hlj) % 256)]).length from by simp])
                    | (refine s_app1 rfl rfl rfl (by repeat' constructor) (by rfl) (by rfl) (by rfl) (by rfl) (by omega) (by omega) ?_; intro a95 c95; rw [u8s_snoc, show out2.length + 1 = (out2 ++ [(((unpackS px[i])[j]'hlj) % 256)]).length from by simp])
                  refine s_as rfl rfl ?_
                  refine WpL.nil ?_
                  refine Wp.region ?_
                  refine s_mv rfl rfl ?_
                  first | refine s_add rfl rfl rfl (w_i64 (by omega) (by omega)) ?_ | refine s_addw rfl rfl rfl ?_
                  refine s_as rfl rfl ?_
                  refine WpL.nil ?_
                  refine loopD.next (⟨j + 1, out2 ++ [((unpackS px[i])[j]'hlj) % 256], a95, c95⟩ : KdX) ?_ ?_ (by first | ((repeat (first | exact Top.refl | refine Top.push rfl ?_ | refine Top.drop rfl ?_)); done) | exact Top.le (by repeat (first | exact FrLe.nil | refine FrLe.cons rfl ?_))) (by repeat (first | exact FrLe.nil | refine FrLe.cons rfl ?_)) ?_
                  · exact ⟨by simp only; omega, by simp only; rw [ho2, ← enc_snoc hlj, enc_lo h9 huj.1 huj.2]; simp, by simp only [List.length_append, List.length_cons, List.length_nil]; omega⟩
                  · simp only; omega
                  · first | exact Ent.refl _ | exact Ent.nil _ | exact Take.ent' (by repeat' constructor) | (repeat (first | exact Ent.refl _ | refine Ent.drop ?_))
              · have hjE : j = (unpackS px[i]).length := by omega
                rw [hjE, List.take_length] at ho2
                refine Wp.exit ?_
                refine Wp.region ?_
                refine s_mv rfl rfl ?_
                first | refine s_add rfl rfl rfl (w_i64 (by omega) (by omega)) ?_ | refine s_addw rfl rfl rfl ?_
                refine s_as rfl rfl ?_
                refine WpL.nil ?_
                refine loopD.next (⟨i + 1, y, x, out2, [], a2, c2, aR, cR⟩ : RwX) ?_ ?_ (by first | ((repeat (first | exact Top.refl | refine Top.push rfl ?_ | refine Top.drop rfl ?_)); done) | exact Top.le (by repeat (first | exact FrLe.nil | refine FrLe.cons rfl ?_))) (by repeat (first | exact FrLe.nil | refine FrLe.cons rfl ?_)) ?_
                · exact ⟨by simp only; omega, by simp only; rw [ho2]; exact hI.more h5 hlt, by simp only [List.length_nil]; omega, fun q => absurd q h5⟩
                · simp only; omega
                · exact Take.ent' (by repeat' constructor)
    · have hoE := hI.done (by omega) (show i = px.length by omega) hpl
      subst hoE
      refine Wp.exit ?_
      refine Wp.seq ?_
      refine Wp.region ?_
      refine s_mv rfl rfl ?_
      refine s_as rfl rfl ?_
      refine s_as rfl rfl ?_
      refine WpL.nil ?_
      refine Wp.ret ?_
      apply RetQ.mk
      · exact (Res.two rfl rfl rfl)
      · exact ⟨aO, cO, rfl, rfl⟩
      · first | exact Ent.refl _ | exact Ent.nil _ | exact Take.ent' (by repeat' constructor) | (repeat (first | exact Ent.refl _ | refine Ent.drop ?_))

end Go.Proofs.YtggamdlpiejbiaaGreat
namespace Go.Proofs.YtggamdlpiejbiaaGreat
open Go.RowKit Go.Shelf
/-- A block whose first cells are these. -/
def rdo (g : Nat) (xs : List Value) : HP where
  p w S := (∀ b, S b ↔ b = g) ∧ g < w.heap.size ∧ ∀ (j : Nat) (u : Value), xs[j]? = some u → w.cell? ⟨g, j, none⟩ = some u
  loc := fun ⟨hs, hg, h⟩ hz hb => ⟨hs, Nat.lt_of_lt_of_le hg hz, fun j u hu => by rw [← h j u hu]; exact cell_same (hb _ ((hs _).2 rfl))⟩
  lt := fun ⟨hs, hg, _⟩ b hb => by rw [(hs b).1 hb]; exact hg
theorem RdsL.rdo {g : Nat} {xs : List Value} : RdsL [Go.Proofs.YtggamdlpiejbiaaGreat.rdo g xs] (some ⟨g, 0, none⟩) xs := by
  intro w U ⟨S, ⟨_, _, h⟩, _⟩
  refine ⟨fun _ => rfl, fun ad had j u hu => ?_⟩
  injection had with had
  subst had
  have := h j u hu
  simpa [Addr.add] using (by by_cases hj : j = 0 <;> simpa [Addr.add, hj] using this : w.cell? ((⟨g, 0, none⟩ : Addr).add j) = some u)
theorem bytes_below (w : World) (e : Nat) (s : ByteArray) : Below w.heap.size w (Lib.bytesWorld w e s) := by
  refine ⟨?_, ?_, ?_, ?_, ?_⟩
  · simp [Lib.bytesWorld, World.freeze, World.alloc, World.drew, -World.alloc_eq, -World.drew_eq]
  · simp [Lib.bytesWorld, World.freeze, World.alloc, World.drew, -World.alloc_eq, -World.drew_eq]
  · simp [Lib.bytesWorld, World.freeze, World.alloc, World.drew, -World.alloc_eq, -World.drew_eq]
  · rw [Lib.bytesWorld_size]; omega
  · intro b hb; exact Lib.bytesWorld_at_old w e s b hb
section
variable {P : Program} {n : Cx} {D : List Deferred} {ops : Array Oper} {rest : List Oper} {Q : Post} {fr : Fr} {l : List HP} {ty : Nat} {pos : String} {aft : Array Edge}
theorem out_bytes {w : World} {U : Nat → Prop} (h : Sat w l U) (e : Nat) (s : ByteArray) : Out (rdo w.heap.size (u8s (bsOf s)) :: l) U w (Lib.bytesWorld w e s) := by
  have hb := bytes_below w e s
  have h2 : Sat (Lib.bytesWorld w e s) l (fun b => U b ∧ b < w.heap.size) := h.inside.keep hb.size fun b _ hlt => hb.block b hlt
  refine ⟨⟨fun b => b = w.heap.size, ⟨fun _ => Iff.rfl, by rw [Lib.bytesWorld_size]; omega, fun j u hu => ?_⟩, fun b hb => .inr (Nat.le_of_eq hb.symm), h2.mono fun b hb => ⟨.inl hb.1, fun e => ?_⟩⟩, .of_below hb⟩
  · have hj : j < (bsOf s).length := by
      have := List.getElem?_eq_some_iff.1 hu
      rw [← u8s_len]; exact this.1
    rw [u8s_at _ hj] at hu
    injection hu with hu
    have hj2 : j < s.size := by rw [bsOf_len] at hj; exact hj
    rw [← hu, Lib.bytesWorld_cell w e s j hj2]
    rw [bsOf_at hj2]
    simp [List.getD, hj2]
    rfl
  · rw [e] at hb; exact absurd hb.2 (Nat.lt_irrefl _)
theorem s_t2b {d T1 T2 e : Nat} {x : Operand} {s : ByteArray} (hd : Nat.blt d n = true) (h1 : P.underlying T1 = some .string) (h2 : P.underlying T2 = some (.slice e)) (h3 : P.underlying e = some (.int .u8)) (hx : ev fr x = some (.string s))
    (k : ∀ g c, WpL P n D ops rest Q ((d, .slice (some ⟨g, 0, none⟩) (bsOf s).length c) :: fr) (rdo g (u8s (bsOf s)) :: l)) : WpL P n D ops (⟨some d, .convert T1 T2 x, ty, pos, aft, none⟩ :: rest) Q fr l :=
  WpL.valx hd (σ := Nat × Nat) (fun q => .slice (some ⟨q.1, 0, none⟩) (bsOf s).length q.2) (fun q => rdo q.1 (u8s (bsOf s)) :: l) (fun a w U hh hs => ⟨(w.heap.size, grownCap w s.size 0 e), _, by rw [bsOf_len]; simp [execOp, hh.ev hx, Lib.run_convert_string_bytes w T1 T2 e s h1 h2 h3], out_bytes hs e s⟩) fun q => k q.1 q.2
end
end Go.Proofs.YtggamdlpiejbiaaGreat
namespace Go.Proofs.YtggamdlpiejbiaaGreat
open Go.RowKit Go.Shelf


theorem fit_can {p C M : Int} (hf : FmtP C M) (h : Can C M p) : FitP p C M := ⟨hf, h.1, fun n hn => (h.2.2 n hn).2⟩
theorem kinds_mem {C M k : Int} (h : k ∈ kindsF C M) : FmtP C M ∧ (1 ≤ k ∧ k ≤ 6) ∧ chK k = C ∧ ((k = 1 ∨ k = 4) → M = 1) := by
  unfold kindsF at h
  split at h
  · rename_i hf
    obtain ⟨i, hi, rfl⟩ := List.mem_map.1 h
    obtain ⟨h1, h2⟩ := List.mem_filter.1 hi
    unfold kP at h2
    simp only [Bool.and_eq_true, decide_eq_true_eq] at h2
    have h3 := List.mem_range.1 h1
    refine ⟨hf, by omega, ?_, by omega⟩
    have := hf.1
    unfold chK
    split <;> omega
  · simp at h
theorem good_sz {most : Int} {m : Img} (hmo : most ≤ 100) (h : GoodI most m) : (0 ≤ m.w * m.h ∧ m.w * m.h ≤ 10000) ∧ m.px.length ≤ 10000 := by
  obtain ⟨_, _, hw, hh, hl, _⟩ := h
  have h1 : m.w * m.h ≤ 100 * 100 := Int.mul_le_mul (by omega) (by omega) (by omega) (by omega)
  have h2 : 0 ≤ m.w * m.h := Int.mul_nonneg (by omega) (by omega)
  omega
theorem good_fits {most : Int} {m : Img} {k : Int} (hmo : most ≤ 100) (h : GoodI most m) (hk : k ∈ kindsF m.c m.m) : MayH k m.w m.h m.m ∧ (∀ p ∈ m.px, FitP p (chK k) m.m) ∧ FitsM m.c m.m m.w m.h m.px := by
  obtain ⟨hf, hk6, hc, h1⟩ := kinds_mem hk
  have hz := good_sz hmo h
  obtain ⟨_, hm, hw, hh, hl, hp⟩ := h
  refine ⟨⟨hk6, by omega, by omega, hm, h1⟩, fun p hpp => by rw [hc]; exact fit_can hf (hp p hpp).1, ⟨by omega, by omega, by omega⟩, hl, fun p hpp => fit_can hf (hp p hpp).1⟩
/-- An image's bytes. -/
def wrI (m : Img) (k : Int) : List Int := hdW k m.w m.h m.m ++ (if k < 4 then wrL k m.w 0 m.px else wrRaw k m.w.toNat (wideM m.m) m.px m.h.toNat)
theorem hdW_len {K W H M : Int} (hK : K ≤ 6) (hW : W ≤ 100) (hH : H ≤ 100) (hM : M ≤ 65535) : (hdW K W H M).length ≤ 100000 := by
  have h1 := digs_len K.toNat
  have h2 := digs_len W.toNat
  have h3 := digs_len H.toNat
  have h4 := digs_len M.toNat
  unfold hdW
  simp only [List.length_append, List.length_cons, List.length_nil]
  split <;> simp only [List.length_append, List.length_cons, List.length_nil] <;> omega

theorem rWrite10_spec (A0 : HP) (m : Img) (a : Option Addr) (c : Nat) (hA : RdsL [A0] a (pxs m.px)) (most : Int) (hmo : most ≤ 100) (hg : GoodI most m) (k : Int) (hk : k ∈ kindsF m.c m.m) : Fn Tryz.prog 34 #[.agg #[.int .i64 m.c, .int .i64 m.m, .int .i64 m.w, .int .i64 m.h, .slice a m.px.length c], .int .i64 k] [A0] (fun v l => ∃ B b e, RdsL [B] b (u8s (wrI m k)) ∧ v = .tuple #[.slice b (wrI m k).length e, .int .i64 0] ∧ l = [B, A0]) := by
  obtain ⟨hMay, hfit, hfm⟩ := good_fits hmo hg hk
  obtain ⟨hz1, hz2⟩ := good_sz hmo hg
  have hb : ∀ p ∈ m.px, 0 ≤ p ∧ p < 18446744073709551616 := fun p hp => (hg.2.2.2.2.2 p hp).2
  have hM2 := hMay
  unfold MayH at hM2
  obtain ⟨_, hg2, hgw, hgh, hgl, _⟩ := id hg
  have hWn : ((m.w.toNat : Nat) : Int) = m.w := by omega
  have hHn : ((m.h.toNat : Nat) : Int) = m.h := by omega
  have hz6 := hdW_len (K := k) (W := m.w) (H := m.h) (M := m.m) (by omega) (by omega) (by omega) (by omega)
  refine Fn.intro (vs := [.agg #[.int .i64 m.c, .int .i64 m.m, .int .i64 m.w, .int .i64 m.h, .slice a m.px.length c], .int .i64 k]) Tryz.func34 rfl Tryz.ntmps34 rfl ?_
  refine Wp.seq ?_
  refine Wp.region ?_
  refine s_box rfl rfl rfl ?_
  intro gI
  refine s_as rfl rfl ?_
  refine s_as rfl rfl ?_
  refine WpL.nil ?_
  refine Wp.seq ?_
  refine Wp.region ?_
  refine s_lda (vs := [_, _, _, _, _]) rfl rfl rfl (by rfl) ?_
  refine s_mv rfl rfl ?_
  refine s_callf rfl rfl (by repeat' constructor) (rTells_spec [A0] m.c m.m m.w m.h a c m.px hA hb (by omega) k) ?_
  rintro _ _ ⟨rfl, rfl⟩
  simp only [napp]
  refine s_as rfl rfl ?_
  refine WpL.nil ?_
  refine Wp.seq ?_
  refine Wp.seq ?_
  refine Wp.region ?_
  refine s_mv rfl rfl ?_
  refine s_notD rfl rfl ?_
  refine WpL.nil ?_
  refine Wp.condD rfl (fun h0 => ?_) (fun h0 => ?_)
  · exfalso; exact absurd ⟨hk, hfm⟩ h0
  · refine Wp.skip ?_
    refine Wp.seq ?_
    refine Wp.region ?_
    refine s_mv rfl rfl ?_
    refine s_fa (o2 := 2) rfl rfl rfl ?_
    refine s_fa (o2 := 2) rfl rfl rfl ?_
    refine s_ld rfl rfl (by rfl) ?_
    refine s_fa (o2 := 2) rfl rfl rfl ?_
    refine s_fa (o2 := 3) rfl rfl rfl ?_
    refine s_ld rfl rfl (by rfl) ?_
    refine s_fa (o2 := 0) rfl rfl rfl ?_
    refine s_fa (o2 := 1) rfl rfl rfl ?_
    refine s_ld rfl rfl (by rfl) ?_
    refine s_bd rfl rfl ?_
    refine s_al rfl ?_
    intro gH
    refine s_sta rfl rfl rfl (by rfl) rfl ?_
    refine WpL.nil ?_
    refine Wp.seq ?_
    refine Wp.region ?_
    refine s_lda (vs := [_, _, _, _]) rfl rfl rfl (by rfl) ?_
    refine s_callf rfl rfl (by repeat' constructor) (rWrite06_spec _ _ _ _ hMay) ?_
    rintro _ _ ⟨s6, hs6, rfl, rfl⟩
    simp only [napp]
    have hs6z : s6.size ≤ 100000 := by rw [← bsOf_len, hs6]; exact hz6
    refine s_mv rfl rfl ?_
    refine s_ext rfl rfl rfl ?_
    refine s_ext rfl rfl rfl ?_
    refine s_as rfl rfl ?_
    refine s_as rfl rfl ?_
    refine WpL.nil ?_
    refine Wp.seq ?_
    refine Wp.seq ?_
    refine Wp.region ?_
    refine s_mv rfl rfl ?_
    refine s_lt rfl rfl rfl ?_
    refine WpL.nil ?_
    refine Wp.condD rfl (fun h1 => ?_) (fun h1 => ?_)
    · refine Wp.seq ?_
      refine Wp.region ?_
      refine s_fa (o2 := 2) rfl rfl rfl ?_
      refine s_fa (o2 := 4) rfl rfl rfl ?_
      refine s_ld rfl rfl (by rfl) ?_
      refine s_lda (vs := [_, _, _, _]) rfl rfl rfl (by rfl) ?_
      refine s_callf rfl rfl (by repeat' constructor) (rWrite_spec A0 a c m.px hA hb (by omega) k m.w m.h m.m) ?_
      rintro _ _ ⟨s8, e8, rfl, hs8, rfl⟩
      simp only [napp]
      obtain ⟨_, rfl, hs8, hz8⟩ : WrP k m.w m.h m.m m.px ∧ e8 = 0 ∧ bsOf s8 = wrL k m.w 0 m.px ∧ s8.size ≤ m.px.length * 300000 := by
        rcases hs8 with q | q
        · exact q
        · exact absurd (⟨⟨hMay, by omega⟩, hgl, hfit⟩ : WrP k m.w m.h m.m m.px) q.1
      refine s_mv rfl rfl ?_
      refine s_ext rfl rfl rfl ?_
      refine s_ext rfl rfl rfl ?_
      refine s_as rfl rfl ?_
      refine s_as rfl rfl ?_
      refine WpL.nil ?_
      refine Wp.seq ?_
      refine Wp.region ?_
      refine s_mv rfl rfl ?_
      refine s_mv rfl rfl ?_
      refine s_cat rfl rfl rfl (by omega) ?_
      refine s_t2b rfl Tryz.underlying9 Tryz.underlying22 Tryz.underlying5 rfl ?_
      intro gB cB
      rw [show bsOf (s6 ++ s8) = wrI m k by rw [bsOf_app, hs6, hs8, wrI, if_pos (by omega)]]
      refine s_as rfl rfl ?_
      refine s_as rfl rfl ?_
      refine WpL.nil ?_
      refine Wp.ret ?_
      apply RetQ.mk
      · exact (Res.two rfl rfl rfl)
      · exact ⟨rdo gB _, _, cB, RdsL.rdo, rfl, rfl⟩
      · first | exact Ent.refl _ | exact Ent.nil _ | exact Take.ent' (by repeat' constructor) | (repeat (first | exact Ent.refl _ | refine Ent.drop ?_))
    · have hpl : m.px.length = m.w.toNat * m.h.toNat := by
        have q : ((m.w.toNat * m.h.toNat : Nat) : Int) = m.w * m.h := by rw [Int.natCast_mul, hWn, hHn]
        omega
      have hw9 := rWrite09_spec A0 a c m.px hA hb k m.w.toNat m.h.toNat m.m (by rw [hWn, hHn]; exact ⟨hMay, by omega⟩) hpl hfit (by omega)
      rw [hWn, hHn] at hw9
      have hwl := wrRaw_len (K := k) (w := wideM m.m) (wideM_or m.m) hpl (fun p hp => by have := can_fit (hfit p hp); omega) m.h.toNat (Nat.le_refl _)
      have hsb := strd_bd (K := k) (W := m.w.toNat) (wideM_or m.m) (by omega) (by omega)
      have hwl2 : (wrRaw k m.w.toNat (wideM m.m) m.px m.h.toNat).length ≤ 24576 * 100 := by rw [hwl]; exact Nat.mul_le_mul hsb.2 (by omega)
      refine Wp.skip ?_
      refine Wp.seq ?_
      refine Wp.region ?_
      refine s_fa (o2 := 2) rfl rfl rfl ?_
      refine s_fa (o2 := 4) rfl rfl rfl ?_
      refine s_ld rfl rfl (by rfl) ?_
      refine s_lda (vs := [_, _, _, _]) rfl rfl rfl (by rfl) ?_
      refine s_callf rfl rfl (by repeat' constructor) (hw9) ?_
      rintro _ _ ⟨a9, c9, rfl, rfl⟩
      simp only [napp]
      refine s_mv rfl rfl ?_
      refine s_ext rfl rfl rfl ?_
      refine s_ext rfl rfl rfl ?_
      refine s_as rfl rfl ?_
      refine s_as rfl rfl ?_
      refine WpL.nil ?_
      refine Wp.seq ?_
      refine Wp.region ?_
      refine s_as rfl rfl ?_
      refine WpL.nil ?_
      refine Wp.seq ?_
      refine Wp.region ?_
      refine s_mv rfl rfl ?_
      refine s_mv rfl rfl ?_
      refine s_t2b rfl Tryz.underlying9 Tryz.underlying22 Tryz.underlying5 rfl ?_
      intro gB cB
      rw [hs6]
      refine WpL.ent (Ent.own_nil (T := 5) (s := 1) (Ent.refl _)) ?_
      refine s_appR (xs := []) (m2 := (hdW k m.w m.h m.m).length) rfl rfl rfl (by repeat' constructor) RdsL.rdo (by first | exact Take.ent' (by repeat' constructor) | (repeat (first | exact Ent.refl _ | refine Ent.drop ?_))) (by rw [u8s_len, Nat.mul_one]) (by rfl) (by rfl) (u8s_one _) (by omega) (by omega) ?_
      intro a61 c61
      rw [List.nil_append, Nat.zero_add]
      refine s_as rfl rfl ?_
      refine WpL.nil ?_
      refine Wp.seq ?_
      refine Wp.region ?_
      refine s_mv rfl rfl ?_
      refine s_mv rfl rfl ?_
      refine s_appo rfl rfl rfl (by repeat' constructor) (by rfl) (by rfl) (u8s_one _) (by omega) (by omega) ?_
      intro a64 c64
      rw [u8s_app, ← List.length_append, show hdW k m.w m.h m.m ++ wrRaw k m.w.toNat (wideM m.m) m.px m.h.toNat = wrI m k by rw [wrI, if_neg (by omega)]]
      refine s_as rfl rfl ?_
      refine s_as rfl rfl ?_
      refine WpL.nil ?_
      refine Wp.ret ?_
      apply RetQ.mk
      · exact (Res.two rfl rfl rfl)
      · exact ⟨own 5 1 a64 c64 (wrI m k).length (u8s (wrI m k)), a64, c64, RdsL.own, rfl, rfl⟩
      · first | exact Ent.refl _ | exact Ent.nil _ | exact Take.ent' (by repeat' constructor) | (repeat (first | exact Ent.refl _ | refine Ent.drop ?_))

end Go.Proofs.YtggamdlpiejbiaaGreat
