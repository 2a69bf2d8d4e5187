/- Walks and plain laws, a part of the proof of PnmOpen: every input that the law's guards let in, no condition beside. -/
import Derived.Test.YtggamdlpiejbiaaGreatM14
namespace Go.Proofs.YtggamdlpiejbiaaGreat
open Go.RowKit Go.Shelf

def bitv (x : Int) : Prop := x = 0 ∨ x = 1
/-- Bits joined, the highest first: the first one weighs w. -/
def bw : List Int → Nat → Int
  | [], _ => 0
  | x :: xs, m => x * 2 ^ m + bw xs (m - 1)
theorem bw_bd : ∀ (xs : List Int) (m : Nat), xs.length ≤ m + 1 → (∀ x ∈ xs, bitv x) → 0 ≤ bw xs m ∧ bw xs m < 2 ^ (m + 1)
  | [], m, _, _ => ⟨by simp [bw], by simp only [bw]; exact_mod_cast Nat.two_pow_pos (m + 1)⟩
  | x :: xs, m, hl, hb => by
    have hx := hb x (by simp)
    have h2 : (0 : Int) < 2 ^ m := by exact_mod_cast Nat.two_pow_pos m
    rw [Int.pow_succ]
    cases m with
    | zero =>
      have : xs = [] := List.eq_nil_of_length_eq_zero (by simp only [List.length_cons] at hl; omega)
      subst this
      unfold bitv at hx
      simp only [bw]; rcases hx with rfl | rfl <;> simp
    | succ m =>
      have ih := bw_bd xs m (by simp at hl; omega) fun y hy => hb y (by simp [hy])
      unfold bitv at hx
      simp only [bw, Nat.add_sub_cancel]
      rcases hx with rfl | rfl <;> omega
def byteOf (xs : List Int) : Int := bw xs 7
def byteAt (l : List Int) (j : Nat) : Int := byteOf ((l.drop (8 * j)).take 8)
def packB (l : List Int) : List Int := (List.range ((l.length + 7) / 8)).map (byteAt l)
def bitAt (bs : List Int) (i : Nat) : Int := (bs[i / 8]?.getD 0) / 2 ^ (7 - i % 8) % 2
def ubits (bs : List Int) (w : Nat) : List Int := (List.range w).map (bitAt bs)
theorem packB_len (l : List Int) : (packB l).length = (l.length + 7) / 8 := by simp [packB]
theorem byteAt_bd {l : List Int} (h : ∀ x ∈ l, bitv x) (j : Nat) : 0 ≤ byteAt l j ∧ byteAt l j ≤ 255 := by
  have := bw_bd ((l.drop (8 * j)).take 8) 7 (by rw [List.length_take]; omega) fun x hx => h x (List.mem_of_mem_drop (List.mem_of_mem_take hx))
  unfold byteAt byteOf
  omega
theorem packB_bd {l : List Int} (h : ∀ x ∈ l, bitv x) : ∀ b ∈ packB l, 0 ≤ b ∧ b ≤ 255 := by
  intro b hb
  obtain ⟨j, _, rfl⟩ := List.mem_map.1 hb
  exact byteAt_bd h j
def wideM (M : Int) : Nat := if 255 < M then 2 else 1
theorem wideM_or (M : Int) : wideM M = 1 ∨ wideM M = 2 := by unfold wideM; split <;> simp
def encS (w : Nat) (x : Int) : List Int := if w = 1 then [x] else [x / 256, x % 256]
def smpAt (w : Nat) (b : List Int) (i : Nat) : Int := if w = 1 then b[i]?.getD 0 else (b[2 * i]?.getD 0) * 256 + (b[2 * i + 1]?.getD 0)
def smps (w : Nat) (b : List Int) : List Int := (List.range (b.length / w)).map (smpAt w b)
theorem enc_len {w : Nat} (hw : w = 1 ∨ w = 2) (xs : List Int) : (xs.flatMap (encS w)).length = xs.length * w := by
  induction xs with
  | nil => simp
  | cons x xs ih =>
    rw [List.flatMap_cons, List.length_append, ih, List.length_cons, Nat.add_mul]
    rcases hw with rfl | rfl <;> simp [encS] <;> omega
theorem enc_bd {w : Nat} {xs : List Int} (h : ∀ x ∈ xs, 0 ≤ x ∧ x ≤ 65535) (h1 : w = 1 → ∀ x ∈ xs, x ≤ 255) : ∀ b ∈ xs.flatMap (encS w), 0 ≤ b ∧ b ≤ 255 := by
  intro b hb
  obtain ⟨x, hx, hb⟩ := List.mem_flatMap.1 hb
  have := h x hx
  unfold encS at hb
  split at hb
  · rename_i hw; have := h1 hw x hx; simp at hb; omega
  · simp at hb; omega
def chunkP (ch : Nat) (l : List Int) : List Int := (List.range (l.length / ch)).map fun k => (packS ((l.drop (k * ch)).take ch)).1
theorem flat_len {ch : Nat} (px : List Int) (h : ∀ p ∈ px, (unpackS p).length = ch) : (px.flatMap unpackS).length = px.length * ch := by
  induction px with
  | nil => simp
  | cons p px ih =>
    rw [List.flatMap_cons, List.length_append, ih fun q hq => h q (by simp [hq]), h p (by simp), List.length_cons, Nat.add_mul]
    omega
def rowB (K : Int) (w : Nat) (row : List Int) : List Int := if K = 4 then packB row else row.flatMap (encS w)
def rowD (K : Int) (W : Nat) (w : Nat) (b : List Int) : List Int := chunkP (chK K).toNat (if K = 4 then ubits b W else smps w b)
structure RW where
  (b : List Int) (n : Nat) (rows last e : Int)
/-- A raw raster's reader, told a byte. -/
def putW (K : Int) (W : Nat) (H M : Int) (s : RW) (c : Int) : RW × List Int :=
  if s.last ≠ 0 then (s, []) else
  if K ≠ 4 ∧ (s.n + 1) % wideM M = 0 ∧ smpAt (wideM M) (s.b.set s.n c) ((s.n + 1) / wideM M - 1) > M then (⟨s.b.set s.n c, s.n + 1, s.rows, 2, 5⟩, []) else
  if s.n + 1 < s.b.length then (⟨s.b.set s.n c, s.n + 1, s.rows, 0, s.e⟩, []) else
  (⟨s.b.set s.n c, 0, s.rows + 1, if s.rows + 1 = H then 1 else 0, s.e⟩, rowD K W (wideM M) (s.b.set s.n c))
/-- A raster's bytes: row by row. -/
def wrRows (K : Int) (W w : Nat) (px : List Int) (n : Nat) : List (List Int) := (List.range n).map fun y => rowB K w (((px.drop (y * W)).take W).flatMap unpackS)
def wrRaw (K : Int) (W w : Nat) (px : List Int) (n : Nat) : List Int := (wrRows K W w px n).flatten
def strd (K : Int) (W w : Nat) : Nat := if K = 4 then (W + 7) / 8 else W * (chK K).toNat * w
def eightF (b : Int) (k j : Nat) : Value := .int .i64 (if j < k then b / 2 ^ (7 - j) % 2 else 0)
def eightK (b : Int) (k : Nat) : List Value := [eightF b k 0, eightF b k 1, eightF b k 2, eightF b k 3, eightF b k 4, eightF b k 5, eightF b k 6, eightF b k 7]
theorem eightK_set (b : Int) {k : Nat} (h : k < 8) : (eightK b k).set k (.int .i64 (b / 2 ^ (7 - k) % 2)) = eightK b (k + 1) := by
  obtain rfl | rfl | rfl | rfl | rfl | rfl | rfl | rfl : k = 0 ∨ k = 1 ∨ k = 2 ∨ k = 3 ∨ k = 4 ∨ k = 5 ∨ k = 6 ∨ k = 7 := by omega
  all_goals rfl
theorem eight_at (b : Int) {j : Nat} (h : j < 8) : (eightK b 8)[j]? = some (.int .i64 (b / 2 ^ (7 - j) % 2)) := by
  obtain rfl | rfl | rfl | rfl | rfl | rfl | rfl | rfl : j = 0 ∨ j = 1 ∨ j = 2 ∨ j = 3 ∨ j = 4 ∨ j = 5 ∨ j = 6 ∨ j = 7 := by omega
  all_goals rfl
theorem bitAt_at {bs : List Int} {k j : Nat} (hk : k < bs.length) (hj : j < 8) : bitAt bs (8 * k + j) = bs[k] / 2 ^ (7 - j) % 2 := by
  unfold bitAt
  rw [show (8 * k + j) / 8 = k by omega, show (8 * k + j) % 8 = j by omega, List.getElem?_eq_getElem hk]
  rfl
theorem ubits_len (bs : List Int) (n : Nat) : (ubits bs n).length = n := by simp [ubits]
theorem ubits_snoc (bs : List Int) (n : Nat) : ubits bs n ++ [bitAt bs n] = ubits bs (n + 1) := by simp [ubits, List.range_succ]
theorem two_pos (k : Nat) : (0 : Int) < 2 ^ k := by exact_mod_cast Nat.two_pow_pos k
structure NmX where
  (k : Nat) (m : List HP)
structure JmX where
  (j : Nat) (m : List HP)

end Go.Proofs.YtggamdlpiejbiaaGreat
namespace Go.Proofs.YtggamdlpiejbiaaGreat
open Go.RowKit Go.Shelf

theorem sized_spec (W : Int) : Fn Tryz.prog 181 #[.int .i64 W] [] (fun v l => v = .bool (decide (1 ≤ W ∧ W ≤ 4096)) ∧ l = []) := by
  refine Fn.intro (vs := [.int .i64 W]) Tryz.func181 rfl Tryz.ntmps181 rfl ?_
  refine Wp.seq ?_
  refine Wp.region ?_
  refine s_as rfl rfl ?_
  refine WpL.nil ?_
  refine Wp.seq ?_
  refine Wp.region ?_
  refine s_mv rfl rfl ?_
  refine s_ge rfl rfl rfl ?_
  refine s_mv rfl rfl ?_
  refine WpL.grd rfl rfl rfl (fun hg1 => ?_) (fun hg1 => ?_)
  · have hg1 := of_decide_eq_true hg1
    refine s_mv rfl rfl ?_
    refine WpL.gon rfl rfl ?_
    refine s_le rfl rfl rfl ?_
    refine s_pickT rfl rfl rfl ?_
    refine s_as rfl rfl ?_
    refine WpL.nil ?_
    refine Wp.ret ?_
    apply RetQ.mk
    · exact (Res.one rfl rfl)
    · exact ⟨congrArg Value.bool (by first | exact dd (by first | rfl | omega) | exact dt (by omega) | exact df (by omega)), rfl⟩
    · first | exact Ent.refl _ | exact Ent.nil _ | exact Take.ent' (by repeat' constructor) | (repeat (first | exact Ent.refl _ | refine Ent.drop ?_))
  · have hg1 := of_decide_eq_false hg1
    refine WpL.goff rfl rfl rfl (by decide) ?_
    refine s_pickF rfl rfl rfl ?_
    refine s_as rfl rfl ?_
    refine WpL.nil ?_
    refine Wp.ret ?_
    apply RetQ.mk
    · exact (Res.one rfl rfl)
    · exact ⟨congrArg Value.bool (by first | exact dd (by first | rfl | omega) | exact dt (by omega) | exact df (by omega)), rfl⟩
    · first | exact Ent.refl _ | exact Ent.nil _ | exact Take.ent' (by repeat' constructor) | (repeat (first | exact Ent.refl _ | refine Ent.drop ?_))

theorem Bytes_spec (W : Int) (h : 1 ≤ W ∧ W ≤ 4096) : Fn Tryz.prog 182 #[.int .i64 W] [] (fun v l => v = .int .i64 ((W + 7) / 8) ∧ l = []) := by
  refine Fn.intro (vs := [.int .i64 W]) Tryz.func182 rfl Tryz.ntmps182 rfl ?_
  refine Wp.seq ?_
  refine Wp.region ?_
  refine s_as rfl rfl ?_
  refine WpL.nil ?_
  refine Wp.seq ?_
  refine Wp.seq ?_
  refine Wp.region ?_
  refine s_mv rfl rfl ?_
  refine s_callf rfl rfl (by repeat' constructor) (sized_spec _) ?_
  rintro _ _ ⟨rfl, rfl⟩
  simp only [napp]
  refine s_notD rfl rfl ?_
  refine WpL.nil ?_
  refine Wp.condDF rfl (fun hn => hn h) ?_
  refine Wp.skip ?_
  refine Wp.seq ?_
  refine Wp.region ?_
  refine s_mv rfl rfl ?_
  first | refine s_add rfl rfl rfl (w_i64 (by omega) (by omega)) ?_ | refine s_addw rfl rfl rfl ?_
  first | refine s_sub rfl rfl rfl (w_i64 (by omega) (by omega)) ?_ | refine s_subw rfl rfl rfl ?_
  refine s_quo rfl rfl rfl (by omega) (by omega) (w_i64 (by omega) (by omega)) ?_
  refine s_as rfl rfl ?_
  refine WpL.nil ?_
  refine Wp.ret ?_
  apply RetQ.mk
  · exact (Res.one rfl rfl)
  · exact ⟨by rw [show W + 8 - 1 = W + 7 by omega], rfl⟩
  · first | exact Ent.refl _ | exact Ent.nil _ | exact Take.ent' (by repeat' constructor) | (repeat (first | exact Ent.refl _ | refine Ent.drop ?_))

theorem eighth_spec (b : Int) (hb0 : 0 ≤ b) (hb1 : b ≤ 255) : Fn Tryz.prog 209 #[.int .u8 b] [] (fun v l => v = .agg (eightK b 8).toArray ∧ l = []) := by
  refine Fn.intro (vs := [.int .u8 b]) Tryz.func209 rfl Tryz.ntmps209 rfl ?_
  refine Wp.seq ?_
  refine Wp.region ?_
  refine s_al rfl ?_
  intro g1
  refine WpL.nil ?_
  refine Wp.seq ?_
  refine Wp.region ?_
  refine s_al rfl ?_
  intro g2
  refine WpL.nil ?_
  refine Wp.seq ?_
  refine Wp.seq ?_
  refine Wp.region ?_
  refine s_mv rfl rfl ?_
  refine WpL.nil ?_
  refine Wp.block ?_
  refine Wp.loopD (σ := Nat) (fun k => k ≤ 8) [4, 5, 6, 7, 8, 9, 10, 11, 12, 13, 14, 15, 16] (fun k => [(5, .int .i64 (k : Int))]) (fun k => [blk g2 (eightK b k) 271, blk g1 (eightK b 0) 271]) (fun k => 8 - k) 0 ?_ (by repeat (first | exact FrLe.nil | refine FrLe.cons rfl ?_)) ?_ ?_
  · omega
  · first | exact Ent.refl _ | exact Ent.nil _ | exact Take.ent' (by repeat' constructor) | (repeat (first | exact Ent.refl _ | refine Ent.drop ?_))
  · rintro k hk
    refine Wp.seq ?_
    refine Wp.region ?_
    refine s_lt rfl rfl rfl ?_
    refine WpL.nil ?_
    refine Wp.seq ?_
    refine Wp.condD rfl (fun h1 => ?_) (fun h1 => ?_)
    · have hlt : k < 8 := by omega
      have hp := two_pos (7 - k)
      have hq0 : 0 ≤ b / 2 ^ (7 - k) := Int.ediv_nonneg hb0 (by omega)
      have hq1 : b / 2 ^ (7 - k) ≤ 255 := Int.le_trans (Int.ediv_le_self _ hb0) hb1
      refine Wp.skip ?_
      refine Wp.seq ?_
      refine Wp.block ?_
      refine Wp.seq ?_
      refine Wp.region ?_
      refine s_mv rfl rfl ?_
      refine s_as rfl rfl ?_
      refine WpL.nil ?_
      refine Wp.region ?_
      refine s_mv rfl rfl ?_
      refine s_mv rfl rfl ?_
      refine s_mv rfl rfl ?_
      first | refine s_sub rfl rfl rfl (w_i64 (by omega) (by omega)) ?_ | refine s_subw rfl rfl rfl ?_
      refine s_shr (2 ^ (7 - k)) rfl rfl rfl ⟨by omega, by simp only [IntKind.bits]; omega, by rw [show (7 - (k : Int)).toNat = 7 - k by omega]⟩ hp ?_
      refine s_and 2 1 rfl rfl rfl (by decide) hq0 (by simp only [IntKind.bits]; omega) (w_u8 (by omega) (by omega)) ?_
      first | refine s_cvi rfl Tryz.underlying5 rfl (w_i64 (by omega) (by omega)) ?_ | refine s_cviw rfl Tryz.underlying5 rfl ?_
      refine s_ixarS k rfl rfl rfl rfl (by omega) (Nat.zero_add k) ?_
      refine s_stk rfl rfl rfl (by simp [eightK]; omega) ?_
      refine WpL.nil ?_
      refine Wp.region ?_
      first | refine s_add rfl rfl rfl (w_i64 (by omega) (by omega)) ?_ | refine s_addw rfl rfl rfl ?_
      refine s_mv rfl rfl ?_
      refine WpL.nil ?_
      rw [eightK_set b hlt]
      refine loopD.next (k + 1) ?_ ?_ (by first | ((repeat (first | exact Top.refl | refine Top.push rfl ?_ | refine Top.drop rfl ?_)); done) | exact Top.le (by repeat (first | exact FrLe.nil | refine FrLe.cons rfl ?_))) (by repeat (first | exact FrLe.nil | refine FrLe.cons rfl ?_)) ?_
      · omega
      · omega
      · first | exact Ent.refl _ | exact Ent.nil _ | exact Take.ent' (by repeat' constructor) | (repeat (first | exact Ent.refl _ | refine Ent.drop ?_))
    · have hke : k = 8 := by omega
      subst hke
      unfold eightK
      refine Wp.exit ?_
      refine Wp.seq ?_
      refine Wp.region ?_
      refine s_lda (vs := [_, _, _, _, _, _, _, _]) rfl rfl rfl (by rfl) ?_
      refine s_sta rfl rfl rfl (by rfl) rfl ?_
      refine WpL.nil ?_
      refine Wp.ret ?_
      apply RetQ.mk
      · exact (RetQ.cell rfl rfl (by rfl))
      · exact ⟨rfl, rfl⟩
      · first | exact Ent.refl _ | exact Ent.nil _ | exact Take.ent' (by repeat' constructor) | (repeat (first | exact Ent.refl _ | refine Ent.drop ?_))

end Go.Proofs.YtggamdlpiejbiaaGreat
namespace Go.Proofs.YtggamdlpiejbiaaGreat
open Go.RowKit Go.Shelf

set_option maxHeartbeats 1000000 in
theorem allF_spec (A0 : HP) (a : Option Addr) (c : Nat) (bs : List Int) (hA : RdsL [A0] a (u8s bs)) (hbs : ∀ x ∈ bs, 0 ≤ x ∧ x ≤ 255) (hbl : bs.length ≤ 1000000000) (gb y : Nat) (J Jx : Nat → List HP → Prop) (hY : ∀ k (_ : k < 8 * bs.length) m, J k m → Yld Tryz.prog y ([.int .i64 (k : Int), .int .i64 (bitAt bs k)] : List Value).toArray m (rdR J Jx k)) (m0 : List HP) (h0 : J 0 m0) : Fn Tryz.prog 208 #[.func (.yield y) #[] #[], .pointer (some ⟨gb, 0, none⟩)] (blk gb [.slice a bs.length c] 22 :: A0 :: m0) (fun _ l => ∃ m', (J (8 * bs.length) m' ∨ ∃ k, k < 8 * bs.length ∧ Jx k m') ∧ l = blk gb [.slice a bs.length c] 22 :: A0 :: m') := by
  refine Fn.intro (vs := [.func (.yield y) #[] #[], .pointer (some ⟨gb, 0, none⟩)]) Tryz.func208 rfl Tryz.ntmps208 rfl ?_
  refine Wp.seq ?_
  refine Wp.region ?_
  refine s_ld rfl rfl (by rfl) ?_
  refine s_lenl rfl rfl ?_
  refine s_mv rfl rfl ?_
  refine WpL.nil ?_
  refine Wp.block ?_
  refine Wp.loopD (σ := NmX) (fun x => x.k ≤ bs.length ∧ J (8 * x.k) x.m) [3, 4, 5, 6, 9, 10, 11, 12, 13, 14, 15, 16, 17, 18, 19, 20, 21, 22, 23, 24, 25, 26, 27, 28, 29] (fun x => [(9, .int .i64 (x.k : Int))]) (fun x => blk gb [.slice a bs.length c] 22 :: A0 :: x.m) (fun x => bs.length - x.k) ⟨0, m0⟩ ?_ (by repeat (first | exact FrLe.nil | refine FrLe.cons rfl ?_)) ?_ ?_
  · exact ⟨Nat.zero_le _, h0⟩
  · first | exact Ent.refl _ | exact Ent.nil _ | exact Take.ent' (by repeat' constructor) | (repeat (first | exact Ent.refl _ | refine Ent.drop ?_))
  · rintro ⟨k, m1⟩ ⟨hk, hJ⟩
    dsimp only at hk hJ ⊢
    refine Wp.seq ?_
    refine Wp.region ?_
    refine s_lt rfl rfl rfl ?_
    refine WpL.nil ?_
    refine Wp.seq ?_
    refine Wp.condD rfl (fun h1 => ?_) (fun h1 => ?_)
    · have hlt : k < bs.length := by omega
      have hb := hbs _ (List.getElem_mem hlt)
      refine Wp.skip ?_
      refine Wp.seq ?_
      refine Wp.block ?_
      refine Wp.seq ?_
      refine Wp.region ?_
      refine s_mv rfl rfl ?_
      refine s_ixa k rfl rfl rfl hA (by first | exact Take.ent' (by repeat' constructor) | (repeat (first | exact Ent.refl _ | refine Ent.drop ?_))) rfl (by omega) (by rw [u8s_len]; omega) ?_
      refine s_ldx rfl rfl hA (by first | exact Take.ent' (by repeat' constructor) | (repeat (first | exact Ent.refl _ | refine Ent.drop ?_))) (u8s_at bs hlt) ?_
      refine s_as rfl rfl ?_
      refine s_as rfl rfl ?_
      refine WpL.nil ?_
      refine Wp.seq ?_
      refine Wp.region ?_
      refine s_mv rfl rfl ?_
      refine s_callf rfl rfl (by repeat' constructor) (eighth_spec _ hb.1 hb.2) ?_
      rintro _ _ ⟨rfl, rfl⟩
      simp only [napp]
      refine s_mv rfl rfl ?_
      refine WpL.nil ?_
      refine Wp.block ?_
      refine Wp.loopD (σ := JmX) (fun z => z.j ≤ 8 ∧ J (8 * k + z.j) z.m) [5, 6, 16, 17, 18, 19, 20, 21, 22, 23, 24, 25, 26, 27, 28] (fun z => [(16, .int .i64 (z.j : Int))]) (fun z => blk gb [.slice a bs.length c] 22 :: A0 :: z.m) (fun z => 8 - z.j) ⟨0, m1⟩ ?_ (by repeat (first | exact FrLe.nil | refine FrLe.cons rfl ?_)) ?_ ?_
      · exact ⟨Nat.zero_le _, hJ⟩
      · first | exact Ent.refl _ | exact Ent.nil _ | exact Take.ent' (by repeat' constructor) | (repeat (first | exact Ent.refl _ | refine Ent.drop ?_))
      · rintro ⟨j, m2⟩ ⟨hj, hJ2⟩
        dsimp only at hj hJ2 ⊢
        refine Wp.seq ?_
        refine Wp.region ?_
        refine s_lt rfl rfl rfl ?_
        refine WpL.nil ?_
        refine Wp.seq ?_
        refine Wp.condD rfl (fun h3 => ?_) (fun h3 => ?_)
        · have hlj : j < 8 := by omega
          have hY1 := hY (8 * k + j) (by omega) m2 hJ2
          rw [bitAt_at hlt hlj, show (((8 * k + j : Nat)) : Int) = 8 * (k : Int) + (j : Int) by omega] at hY1
          refine Wp.skip ?_
          refine Wp.seq ?_
          refine Wp.block ?_
          refine Wp.seq ?_
          refine Wp.region ?_
          refine s_mv rfl rfl ?_
          refine s_ixav (k := j) rfl rfl rfl rfl (by omega) (eight_at _ hlj) ?_
          refine s_as rfl rfl ?_
          refine s_as rfl rfl ?_
          refine WpL.nil ?_
          refine Wp.seq ?_
          refine Wp.region ?_
          refine s_mv rfl rfl ?_
          refine s_mv rfl rfl ?_
          first | refine s_mul rfl rfl rfl (w_i64 (by omega) (by omega)) ?_ | refine s_mulw rfl rfl rfl ?_
          refine s_mv rfl rfl ?_
          first | refine s_add rfl rfl rfl (w_i64 (by omega) (by omega)) ?_ | refine s_addw rfl rfl rfl ?_
          refine s_mv rfl rfl ?_
          refine s_yield rfl rfl rfl rfl (by repeat (first | exact Take.all | apply Take.skip)) (hY1) ?_
          rintro v m' (⟨rfl, hm'⟩ | ⟨rfl, hm'⟩)
          · simp only [napp]
            refine s_not rfl rfl ?_
            refine WpL.nil ?_
            refine Wp.condF rfl ?_
            refine Wp.skip ?_
            refine Wp.region ?_
            first | refine s_add rfl rfl rfl (w_i64 (by omega) (by omega)) ?_ | refine s_addw rfl rfl rfl ?_
            refine s_mv rfl rfl ?_
            refine WpL.nil ?_
            refine loopD.next (⟨j + 1, m'⟩ : JmX) ?_ ?_ (by first | ((repeat (first | exact Top.refl | refine Top.push rfl ?_ | refine Top.drop rfl ?_)); done) | exact Top.le (by repeat (first | exact FrLe.nil | refine FrLe.cons rfl ?_))) (by repeat (first | exact FrLe.nil | refine FrLe.cons rfl ?_)) ?_
            · exact ⟨by simp only; omega, hm'⟩
            · simp only; omega
            · first | exact Ent.refl _ | exact Ent.nil _ | exact Take.ent' (by repeat' constructor) | (repeat (first | exact Ent.refl _ | refine Ent.drop ?_))
          · simp only [napp]
            refine s_not rfl rfl ?_
            refine WpL.nil ?_
            refine Wp.condT rfl ?_
            refine Wp.ret ?_
            apply RetQ.mk
            · exact (Res.none rfl)
            · exact ⟨m', .inr ⟨_, by omega, hm'⟩, rfl⟩
            · first | exact Ent.refl _ | exact Ent.nil _ | exact Take.ent' (by repeat' constructor) | (repeat (first | exact Ent.refl _ | refine Ent.drop ?_))
        · refine Wp.exit ?_
          refine Wp.region ?_
          first | refine s_add rfl rfl rfl (w_i64 (by omega) (by omega)) ?_ | refine s_addw rfl rfl rfl ?_
          refine s_mv rfl rfl ?_
          refine WpL.nil ?_
          refine loopD.next (⟨k + 1, m2⟩ : NmX) ?_ ?_ (by first | ((repeat (first | exact Top.refl | refine Top.push rfl ?_ | refine Top.drop rfl ?_)); done) | exact Top.le (by repeat (first | exact FrLe.nil | refine FrLe.cons rfl ?_))) (by repeat (first | exact FrLe.nil | refine FrLe.cons rfl ?_)) ?_
          · exact ⟨by simp only; omega, by simp only; rw [show 8 * (k + 1) = 8 * k + j by omega]; exact hJ2⟩
          · simp only; omega
          · first | exact Ent.refl _ | exact Ent.nil _ | exact Take.ent' (by repeat' constructor) | (repeat (first | exact Ent.refl _ | refine Ent.drop ?_))
    · refine Wp.exit ?_
      apply RetQ.nm
      · exact (Res.none rfl)
      · have hke : k = bs.length := by omega
        rw [hke] at hJ
        exact ⟨m1, .inl hJ, rfl⟩
      · first | exact Ent.refl _ | exact Ent.nil _ | exact Take.ent' (by repeat' constructor) | (repeat (first | exact Ent.refl _ | refine Ent.drop ?_))


theorem all_iter (A0 : HP) (a : Option Addr) (c : Nat) (bs : List Int) (hA : RdsL [A0] a (u8s bs)) (hbs : ∀ x ∈ bs, 0 ≤ x ∧ x ≤ 255) (hbl : bs.length ≤ 1000000000) (gb : Nat) :
    Iter Tryz.prog 208 [.pointer (some ⟨gb, 0, none⟩)] (fun k : Nat => [.int .i64 (k : Int), .int .i64 (bitAt bs k)]) (List.range (8 * bs.length)) [blk gb [.slice a bs.length c] 22, A0] [blk gb [.slice a bs.length c] 22, A0] := by
  intro y J Jx hY m h0
  have hl : (List.range (8 * bs.length)).length = 8 * bs.length := List.length_range
  rw [hl]
  have h := allF_spec A0 a c bs hA hbs hbl gb y J Jx (fun k hk m hJ => by have := hY k (by rw [hl]; exact hk) m hJ; simpa using this) m h0
  exact h.mono fun v l hv => ⟨l, by obtain ⟨m', hm, rfl⟩ := hv; exact ⟨m', hm, rfl⟩, Ent.refl _⟩

theorem all_spec (A0 : HP) (a : Option Addr) (c : Nat) (bs : List Int) : Fn Tryz.prog 203 #[.slice a bs.length c] [A0] (fun v l => ∃ gb, v = .func (.func 208) #[] #[.pointer (some ⟨gb, 0, none⟩)] ∧ l = [blk gb [.slice a bs.length c] 22, A0]) := by
  refine Fn.intro (vs := [.slice a bs.length c]) Tryz.func203 rfl Tryz.ntmps203 rfl ?_
  refine Wp.seq ?_
  refine Wp.region ?_
  refine s_box rfl rfl rfl ?_
  intro g1
  refine s_as rfl rfl ?_
  refine WpL.nil ?_
  refine Wp.seq ?_
  refine Wp.region ?_
  refine s_mkf rfl (fun a hh => evs_map hh _ _ rfl) ?_
  refine s_as rfl rfl ?_
  refine WpL.nil ?_
  refine Wp.ret ?_
  apply RetQ.mk
  · exact (Res.one rfl rfl)
  · exact ⟨_, rfl, rfl⟩
  · first | exact Ent.refl _ | exact Ent.nil _ | exact Take.ent' (by repeat' constructor) | (repeat (first | exact Ent.refl _ | refine Ent.drop ?_))

end Go.Proofs.YtggamdlpiejbiaaGreat
namespace Go.Proofs.YtggamdlpiejbiaaGreat
open Go.RowKit Go.Shelf

theorem UnpackB_spec (A0 : HP) (a : Option Addr) (c : Nat) (bs : List Int) (hA : RdsL [A0] a (u8s bs)) (hbs : ∀ x ∈ bs, 0 ≤ x ∧ x ≤ 255) (hbl : bs.length ≤ 1000000000) (W : Nat) (hW : 1 ≤ W ∧ W ≤ 4096) (hn : bs.length = (W + 7) / 8) (hc : bs.length ≤ c) : Fn Tryz.prog 194 #[.slice a bs.length c, .int .i64 (W : Int)] [A0] (fun v l => ∃ a' c', v = .tuple #[.slice a' W c', .int .i64 0] ∧ l = [own 3 1 a' c' W (ints (ubits bs W)), A0]) := by
  refine Fn.intro (vs := [.slice a bs.length c, .int .i64 (W : Int)]) Tryz.func194 rfl Tryz.ntmps194 rfl ?_
  refine Wp.seq ?_
  refine Wp.region ?_
  refine s_box rfl rfl rfl ?_
  intro g1
  refine s_as rfl rfl ?_
  refine s_as rfl rfl ?_
  refine WpL.nil ?_
  refine Wp.seq ?_
  refine Wp.region ?_
  refine s_ld rfl rfl (by rfl) ?_
  refine s_callf rfl rfl (by repeat' constructor) (Bytes_spec _ (by omega)) ?_
  rintro _ _ ⟨rfl, rfl⟩
  simp only [napp]
  refine s_as rfl rfl ?_
  refine WpL.nil ?_
  refine Wp.seq ?_
  refine Wp.block ?_
  refine Wp.seq ?_
  refine Wp.region ?_
  refine s_mv rfl rfl ?_
  refine s_eq rfl rfl rfl ?_
  refine s_as rfl rfl ?_
  refine WpL.nil ?_
  refine Wp.condDF rfl (by omega) ?_
  refine Wp.seq ?_
  refine Wp.region ?_
  refine s_mv rfl rfl ?_
  refine s_lenl rfl rfl ?_
  refine s_mv rfl rfl ?_
  refine s_lt rfl rfl rfl ?_
  refine s_as rfl rfl ?_
  refine WpL.nil ?_
  refine Wp.condDF rfl (by omega) ?_
  refine Wp.skip ?_
  refine Wp.seq ?_
  refine Wp.region ?_
  refine s_al rfl ?_
  intro g2
  refine WpL.nil ?_
  refine Wp.seq ?_
  refine Wp.seq ?_
  refine Wp.region ?_
  refine s_mv rfl rfl ?_
  refine s_mv rfl rfl ?_
  refine s_sll_h (H := bs.length) rfl rfl rfl (by omega) (by omega) ?_
  refine s_callf rfl rfl (by repeat' constructor) (all_spec A0 a c bs) ?_
  rintro _ _ ⟨gb, rfl, rfl⟩
  simp only [napp]
  refine WpL.nil ?_
  refine Wp.block ?_
  refine Wp.rangeF (encs := fun k : Nat => [.int .i64 (k : Int), .int .i64 (bitAt bs k)]) (xs := List.range (8 * bs.length)) (own := [blk gb [.slice a bs.length c] 22, A0]) (own' := [blk gb [.slice a bs.length c] 22, A0]) (m0 := [blk g2 [.slice none 0 0] 26, blk g1 [.int .i64 (W : Int)] 3, own 3 1 none 0 0 []]) rfl rfl (all_iter A0 a c bs hA hbs hbl gb) (fun _ => rfl) rfl (fun k m => ∃ a9 c9, m = [blk g2 [.slice a9 (min k W) c9] 26, blk g1 [.int .i64 (W : Int)] 3, own 3 1 a9 c9 (min k W) (ints (ubits bs (min k W)))]) (fun _ _ _ => False) ?_ ?_ ?_ ?_ ?_
  · exact ⟨none, 0, by rw [Nat.zero_min]; rfl⟩
  · simp only [napp]
    exact (Ent.own_nil (T := 3) (s := 1) (Ent.refl _)).trans (Take.ent' (by repeat' constructor))
  · intro y k hk m hm
    obtain ⟨a9, c9, rfl⟩ := hm
    rw [List.getElem_range]
    rw [List.length_range] at hk
    refine Wp.seq ?_
    refine Wp.region ?_
    refine s_as rfl rfl ?_
    refine WpL.nil ?_
    refine Wp.region ?_
    refine s_as rfl rfl ?_
    refine WpL.nil ?_
    refine ⟨rfl, rfl, ?_⟩
    refine Wp.block ?_
    refine Wp.seq ?_
    refine Wp.region ?_
    refine s_mv rfl rfl ?_
    refine s_ld rfl rfl (by rfl) ?_
    refine s_lt rfl rfl rfl ?_
    refine WpL.nil ?_
    refine Wp.condD rfl (fun h3 => ?_) (fun h3 => ?_)
    · rw [Nat.min_eq_left (show k ≤ W by omega)]
      refine Wp.region ?_
      refine s_ld rfl rfl (by rfl) ?_
      refine s_mv rfl rfl ?_
      refine s_bs1 rfl rfl rfl rfl ?_
      intro g3
      refine s_app1 rfl rfl rfl (by repeat' constructor) (by rfl) (by rfl) (by rfl) (by rfl) (by first | omega | (simp only [List.length_append, List.length_cons, List.length_nil] at *; omega)) (by first | omega | (simp only [List.length_append, List.length_cons, List.length_nil] at *; omega)) ?_
      intro a32 c32
      refine s_st rfl rfl rfl ?_
      refine WpL.nil ?_
      rw [ints_snoc, ubits_snoc]
      refine ⟨_, ⟨a32, c32, rfl⟩, ?_⟩
      rw [Nat.min_eq_left (show k + 1 ≤ W by omega)]
      first | exact Ent.refl _ | exact Ent.nil _ | exact Take.ent' (by repeat' constructor) | (repeat (first | exact Ent.refl _ | refine Ent.drop ?_))
    · rw [Nat.min_eq_right (show W ≤ k by omega)]
      refine Wp.skip ?_
      refine ⟨_, ⟨a9, c9, rfl⟩, ?_⟩
      rw [Nat.min_eq_right (show W ≤ k + 1 by omega)]
      first | exact Ent.refl _ | exact Ent.nil _ | exact Take.ent' (by repeat' constructor) | (repeat (first | exact Ent.refl _ | refine Ent.drop ?_))
  · intro q1 m hm
    obtain ⟨a9, c9, rfl⟩ := hm
    rw [List.length_range]
    simp only [napp]
    rw [Nat.min_eq_right (show W ≤ 8 * bs.length by omega)]
    refine Wp.seq ?_
    refine Wp.region ?_
    refine s_ld rfl rfl (by rfl) ?_
    refine s_as rfl rfl ?_
    refine s_as rfl rfl ?_
    refine WpL.nil ?_
    refine Wp.ret ?_
    apply RetQ.mkR [q1] rfl (by repeat' constructor)
    · exact (Res.two rfl rfl rfl)
    · exact ⟨a9, c9, rfl, rfl⟩
    · first | exact Ent.refl _ | exact Ent.nil _ | exact Take.ent' (by repeat' constructor) | (repeat (first | exact Ent.refl _ | refine Ent.drop ?_))
  · exact fun _ _ _ _ _ h => h.elim

end Go.Proofs.YtggamdlpiejbiaaGreat
namespace Go.Proofs.YtggamdlpiejbiaaGreat
open Go.RowKit Go.Shelf

theorem u8s_zero (N : Nat) : List.replicate N (Value.int .u8 0) = u8s (List.replicate N 0) := by simp [u8s]
end Go.Proofs.YtggamdlpiejbiaaGreat
namespace Go.Proofs.YtggamdlpiejbiaaGreat
open Go.RowKit Go.Shelf

theorem mul_succ' (k ch : Nat) : (k + 1) * ch = k * ch + ch := by rw [Nat.add_mul, Nat.one_mul]

set_option maxHeartbeats 1000000 in
theorem chunkF_spec (a : Option Addr) (c N ch W : Nat) (hch : 1 ≤ ch) (hN : N = W * ch) (hNc : N ≤ c) (hNb : N ≤ 1000000000) (gs gn y : Nat) (J Jx : Nat → List HP → Prop) (hY : ∀ k (_ : k < W) m, J k m → Yld Tryz.prog y ([.slice (sla a (k * ch) ((k + 1) * ch) 1) ch ch] : List Value).toArray m (rdR J Jx k)) (m0 : List HP) (h0 : J 0 m0) : Fn Tryz.prog 204 #[.func (.yield y) #[] #[], .pointer (some ⟨gs, 0, none⟩), .pointer (some ⟨gn, 0, none⟩)] (blk gs [.slice a N c] 26 :: blk gn [.int .i64 (ch : Int)] 3 :: m0) (fun _ l => ∃ m', (J W m' ∨ ∃ k, k < W ∧ Jx k m') ∧ l = blk gs [.slice a N c] 26 :: blk gn [.int .i64 (ch : Int)] 3 :: m') := by
  refine Fn.intro (vs := [.func (.yield y) #[] #[], .pointer (some ⟨gs, 0, none⟩), .pointer (some ⟨gn, 0, none⟩)]) Tryz.func204 rfl Tryz.ntmps204 rfl ?_
  refine Wp.seq ?_
  refine Wp.region ?_
  refine s_as rfl rfl ?_
  refine WpL.nil ?_
  refine Wp.block ?_
  refine Wp.loopD (σ := NmX) (fun x => x.k ≤ W ∧ J x.k x.m) [4, 5, 6, 7, 8, 9, 10, 11, 12, 13, 14, 15, 16, 17, 18, 19, 20, 21, 22, 23, 24, 25, 26, 27, 28, 29, 30] (fun x => [(4, .int .i64 ((x.k * ch : Nat) : Int))]) (fun x => blk gs [.slice a N c] 26 :: blk gn [.int .i64 (ch : Int)] 3 :: x.m) (fun x => W - x.k) ⟨0, m0⟩ ?_ (FrLe.cons (by rw [Nat.zero_mul]; rfl) FrLe.nil) ?_ ?_
  · exact ⟨Nat.zero_le _, h0⟩
  · first | exact Ent.refl _ | exact Ent.nil _ | exact Take.ent' (by repeat' constructor) | (repeat (first | exact Ent.refl _ | refine Ent.drop ?_))
  · rintro ⟨k, m1⟩ ⟨hk, hJ⟩
    dsimp only at hk hJ ⊢
    have hkN : k * ch ≤ N := by rw [hN]; exact Nat.mul_le_mul_right _ hk
    refine Wp.seq ?_
    refine Wp.seq ?_
    refine Wp.region ?_
    refine s_mv rfl rfl ?_
    refine s_ld rfl rfl (by rfl) ?_
    refine s_lenl rfl rfl ?_
    refine s_lt rfl rfl rfl ?_
    refine WpL.nil ?_
    refine Wp.condD rfl (fun h1 => ?_) (fun h1 => ?_)
    · have hlt : k < W := by
        rcases Nat.lt_or_ge k W with h | h
        · exact h
        · have := Nat.mul_le_mul_right ch h; omega
      have hkN1 : (k + 1) * ch ≤ N := by rw [hN]; exact Nat.mul_le_mul_right _ hlt
      have hks := mul_succ' k ch
      have hY1 := hY k hlt m1 hJ
      refine Wp.skip ?_
      refine Wp.seq ?_
      refine Wp.block ?_
      refine Wp.seq ?_
      apply Wp.draw mixed [⟨13, _, []⟩, ⟨14, _, []⟩, ⟨15, _, []⟩, ⟨16, _, [1, 2]⟩, ⟨17, _, [3]⟩, ⟨18, _, [0, 4]⟩, ⟨5, _, [5, 0, 1, 2, 3, 4]⟩] rfl
      · refine AllObs.mk ?_ ?_
        · refine s_ld rfl rfl (by rfl) ?_
          exact obN rfl
        refine AllObs.mk ?_ ?_
        · refine s_ld rfl rfl (by rfl) ?_
          exact obN rfl
        refine AllObs.mk ?_ ?_
        · refine s_mv rfl rfl ?_
          exact obN rfl
        refine AllObs.mk ?_ ?_
        · refine s_sll_l (L := k * ch) rfl rfl rfl rfl hkN ?_
          exact obN rfl
        refine AllObs.mk ?_ ?_
        · refine s_lenl rfl rfl ?_
          exact WpL.nil ⟨rfl, rfl, rfl, by first | exact Ent.refl _ | exact Ent.nil _ | exact Take.ent' (by repeat' constructor) | (repeat (first | exact Ent.refl _ | refine Ent.drop ?_))⟩
        refine AllObs.mk ?_ ?_
        · refine s_min2 rfl rfl rfl ?_
          rw [show min (ch : Int) ((N - k * ch : Nat) : Int) = (ch : Int) by omega]
          exact WpL.nil ⟨rfl, rfl, rfl, by first | exact Ent.refl _ | exact Ent.nil _ | exact Take.ent' (by repeat' constructor) | (repeat (first | exact Ent.refl _ | refine Ent.drop ?_))⟩
        refine AllObs.mk ?_ ?_
        · refine s_as rfl rfl ?_
          exact obN rfl
        exact AllObs.nil
      · refine Wp.seq ?_
        refine Wp.region ?_
        refine s_mv rfl rfl ?_
        refine s_ld rfl rfl (by rfl) ?_
        refine s_mv rfl rfl ?_
        refine s_mv rfl rfl ?_
        refine s_mv rfl rfl ?_
        refine s_add rfl rfl rfl (w_i64 (by omega) (by omega)) ?_
        rw [show ((k * ch : Nat) : Int) + (ch : Int) = (((k + 1) * ch : Nat) : Int) by omega]
        refine s_mv rfl rfl ?_
        refine s_mv rfl rfl ?_
        refine s_add rfl rfl rfl (w_i64 (by omega) (by omega)) ?_
        rw [show ((k * ch : Nat) : Int) + (ch : Int) = (((k + 1) * ch : Nat) : Int) by omega]
        refine s_sll_lhm (L := k * ch) (H := (k + 1) * ch) (M := (k + 1) * ch) rfl rfl rfl rfl rfl rfl rfl rfl (by omega) (by omega) (by omega) ?_
        rw [show (k + 1) * ch - k * ch = ch by omega]
        refine s_yield rfl rfl rfl rfl (by repeat (first | exact Take.all | apply Take.skip)) (hY1) ?_
        rintro v m' (⟨rfl, hm'⟩ | ⟨rfl, hm'⟩)
        · simp only [napp]
          refine s_not rfl rfl ?_
          refine WpL.nil ?_
          refine Wp.condF rfl ?_
          refine Wp.skip ?_
          refine Wp.region ?_
          refine s_mv rfl rfl ?_
          refine s_ld rfl rfl (by rfl) ?_
          refine s_add rfl rfl rfl (w_i64 (by omega) (by omega)) ?_
          refine s_as rfl rfl ?_
          refine WpL.nil ?_
          refine loopD.next (⟨k + 1, m'⟩ : NmX) ?_ ?_ (by first | ((repeat (first | exact Top.refl | refine Top.push rfl ?_ | refine Top.drop rfl ?_)); done) | exact Top.le (by repeat (first | exact FrLe.nil | refine FrLe.cons rfl ?_))) (FrLe.cons (by exact congrArg (fun x => some (Value.int .i64 x)) (by rw [mul_succ']; push_cast; rfl)) FrLe.nil) ?_
          · exact ⟨by simp only; omega, hm'⟩
          · simp only; omega
          · first | exact Ent.refl _ | exact Ent.nil _ | exact Take.ent' (by repeat' constructor) | (repeat (first | exact Ent.refl _ | refine Ent.drop ?_))
        · simp only [napp]
          refine s_not rfl rfl ?_
          refine WpL.nil ?_
          refine Wp.condT rfl ?_
          refine Wp.ret ?_
          apply RetQ.mk
          · exact (Res.none rfl)
          · exact ⟨m', .inr ⟨_, hlt, hm'⟩, rfl⟩
          · first | exact Ent.refl _ | exact Ent.nil _ | exact Take.ent' (by repeat' constructor) | (repeat (first | exact Ent.refl _ | refine Ent.drop ?_))
    · refine Wp.exit ?_
      apply RetQ.nm
      · exact (Res.none rfl)
      · have hke : k = W := by
          rcases Nat.lt_or_ge k W with h | h
          · exfalso; have h9 := Nat.mul_le_mul_right ch (show k + 1 ≤ W from h); rw [mul_succ'] at h9; omega
          · omega
        rw [hke] at hJ
        exact ⟨m1, .inl hJ, rfl⟩
      · first | exact Ent.refl _ | exact Ent.nil _ | exact Take.ent' (by repeat' constructor) | (repeat (first | exact Ent.refl _ | refine Ent.drop ?_))


theorem chunk_iter (a : Option Addr) (c N ch W : Nat) (hch : 1 ≤ ch) (hN : N = W * ch) (hNc : N ≤ c) (hNb : N ≤ 1000000000) (gs gn : Nat) :
    Iter Tryz.prog 204 [.pointer (some ⟨gs, 0, none⟩), .pointer (some ⟨gn, 0, none⟩)] (fun k : Nat => [.slice (sla a (k * ch) ((k + 1) * ch) 1) ch ch]) (List.range W) [blk gs [.slice a N c] 26, blk gn [.int .i64 (ch : Int)] 3] [blk gs [.slice a N c] 26, blk gn [.int .i64 (ch : Int)] 3] := by
  intro y J Jx hY m h0
  have hl : (List.range W).length = W := List.length_range
  rw [hl]
  have h := chunkF_spec a c N ch W hch hN hNc hNb gs gn y J Jx (fun k hk m hJ => by have := hY k (by rw [hl]; exact hk) m hJ; simpa using this) m h0
  exact h.mono fun v l hv => ⟨l, by obtain ⟨m', hm, rfl⟩ := hv; exact ⟨m', hm, rfl⟩, Ent.refl _⟩

theorem chunk_spec (a : Option Addr) (c N ch : Nat) (hch : 1 ≤ ch) : Fn Tryz.prog 195 #[.slice a N c, .int .i64 (ch : Int)] [] (fun v l => ∃ gs gn, v = .func (.func 204) #[] #[.pointer (some ⟨gs, 0, none⟩), .pointer (some ⟨gn, 0, none⟩)] ∧ l = [blk gs [.slice a N c] 26, blk gn [.int .i64 (ch : Int)] 3]) := by
  refine Fn.intro (vs := [.slice a N c, .int .i64 (ch : Int)]) Tryz.func195 rfl Tryz.ntmps195 rfl ?_
  refine Wp.seq ?_
  refine Wp.region ?_
  refine s_box rfl rfl rfl ?_
  intro g1
  refine s_box rfl rfl rfl ?_
  intro g2
  refine s_as rfl rfl ?_
  refine WpL.nil ?_
  refine Wp.seq ?_
  refine Wp.seq ?_
  refine Wp.region ?_
  refine s_ld rfl rfl (by rfl) ?_
  refine s_lt rfl rfl rfl ?_
  refine WpL.nil ?_
  refine Wp.condDF rfl (by omega) ?_
  refine Wp.skip ?_
  refine Wp.seq ?_
  refine Wp.region ?_
  refine s_mkf rfl (fun a hh => evs_map hh _ _ rfl) ?_
  refine s_as rfl rfl ?_
  refine WpL.nil ?_
  refine Wp.ret ?_
  apply RetQ.mk
  · exact (Res.one rfl rfl)
  · exact ⟨_, _, rfl, rfl⟩
  · first | exact Ent.refl _ | exact Ent.nil _ | exact Take.ent' (by repeat' constructor) | (repeat (first | exact Ent.refl _ | refine Ent.drop ?_))

end Go.Proofs.YtggamdlpiejbiaaGreat
namespace Go.Proofs.YtggamdlpiejbiaaGreat
open Go.RowKit Go.Shelf


def RawH (K W H M : Int) : Prop := MayH K W H M ∧ 4 ≤ K
theorem RawH.bd {K W H M : Int} (h : RawH K W H M) : (4 ≤ K ∧ K ≤ 6) ∧ (1 ≤ W ∧ W ≤ 4096) ∧ (1 ≤ H ∧ H ≤ 65536) ∧ (1 ≤ M ∧ M ≤ 65535) ∧ (K = 4 → M = 1) := by
  obtain ⟨h1, h2⟩ := h
  unfold MayH at h1
  omega
theorem chK_13 (K : Int) : chK K = 1 ∨ chK K = 3 := by unfold chK; split <;> simp
theorem strd_bd {K : Int} {W w : Nat} (hw : w = 1 ∨ w = 2) (h1 : 1 ≤ W) (h2 : W ≤ 4096) : 1 ≤ strd K W w ∧ strd K W w ≤ 24576 := by
  have hch := chK_13 K
  unfold strd
  split
  · omega
  · rcases hch with e | e <;> rw [e] <;> rcases hw with rfl | rfl <;> simp <;> omega
theorem strd_int {K : Int} {W w : Nat} (h : K ≠ 4) : ((strd K W w : Nat) : Int) = (W : Int) * chK K * (w : Int) := by
  have hch := chK_13 K
  unfold strd
  rw [if_neg h]
  push_cast
  rw [Int.toNat_of_nonneg (by omega)]

theorem wide_spec (K W H M : Int) : Fn Tryz.prog 145 #[.agg #[.int .i64 K, .int .i64 W, .int .i64 H, .int .i64 M]] [] (fun v l => v = .int .i64 ((wideM M : Nat) : Int) ∧ l = []) := by
  refine Fn.intro (vs := [.agg #[.int .i64 K, .int .i64 W, .int .i64 H, .int .i64 M]]) Tryz.func145 rfl Tryz.ntmps145 rfl ?_
  refine Wp.seq ?_
  refine Wp.region ?_
  refine s_box rfl rfl rfl ?_
  intro g1
  refine s_as rfl rfl ?_
  refine WpL.nil ?_
  refine Wp.seq ?_
  refine Wp.seq ?_
  refine Wp.region ?_
  refine s_fa (o2 := 3) rfl rfl rfl ?_
  refine s_ld rfl rfl (by rfl) ?_
  refine s_gt rfl rfl rfl ?_
  refine WpL.nil ?_
  refine Wp.condD rfl (fun h0 => ?_) (fun h0 => ?_)
  · refine Wp.seq ?_
    refine Wp.region ?_
    refine s_as rfl rfl ?_
    refine WpL.nil ?_
    refine Wp.ret ?_
    apply RetQ.mk
    · exact (Res.one rfl rfl)
    · exact ⟨by unfold wideM; first | (rw [if_pos (by omega)]; rfl) | (rw [if_neg (by omega)]; rfl), rfl⟩
    · first | exact Ent.refl _ | exact Ent.nil _ | exact Take.ent' (by repeat' constructor) | (repeat (first | exact Ent.refl _ | refine Ent.drop ?_))
  · refine Wp.skip ?_
    refine Wp.seq ?_
    refine Wp.region ?_
    refine s_as rfl rfl ?_
    refine WpL.nil ?_
    refine Wp.ret ?_
    apply RetQ.mk
    · exact (Res.one rfl rfl)
    · exact ⟨by unfold wideM; first | (rw [if_pos (by omega)]; rfl) | (rw [if_neg (by omega)]; rfl), rfl⟩
    · first | exact Ent.refl _ | exact Ent.nil _ | exact Take.ent' (by repeat' constructor) | (repeat (first | exact Ent.refl _ | refine Ent.drop ?_))

theorem Stride_spec (K : Int) (W : Nat) (H M : Int) (hR : RawH K (W : Int) H M) : Fn Tryz.prog 146 #[.agg #[.int .i64 K, .int .i64 (W : Int), .int .i64 H, .int .i64 M]] [] (fun v l => v = .int .i64 ((strd K W (wideM M) : Nat) : Int) ∧ l = []) := by
  have hb := hR.bd
  have hch := chK_13 K
  have hw := wideM_or M
  have hm1 : 0 ≤ (W : Int) * chK K ∧ (W : Int) * chK K ≤ 12288 := by rcases hch with e | e <;> rw [e] <;> omega
  have hm2 : 0 ≤ (W : Int) * chK K * ((wideM M : Nat) : Int) ∧ (W : Int) * chK K * ((wideM M : Nat) : Int) ≤ 24576 := by rcases hw with e | e <;> rw [e] <;> omega
  refine Fn.intro (vs := [.agg #[.int .i64 K, .int .i64 (W : Int), .int .i64 H, .int .i64 M]]) Tryz.func146 rfl Tryz.ntmps146 rfl ?_
  refine Wp.seq ?_
  refine Wp.region ?_
  refine s_box rfl rfl rfl ?_
  intro g1
  refine s_as rfl rfl ?_
  refine WpL.nil ?_
  refine Wp.seq ?_
  refine Wp.block ?_
  refine Wp.seq ?_
  refine Wp.region ?_
  refine s_lda (vs := [_, _, _, _]) rfl rfl rfl (by rfl) ?_
  refine s_callf rfl rfl (by repeat' constructor) (Raw_spec _ _ _ _) ?_
  rintro _ _ ⟨rfl, rfl⟩
  simp only [napp]
  refine s_notD rfl rfl ?_
  refine s_as rfl rfl ?_
  refine WpL.nil ?_
  refine Wp.condDF rfl (fun hn => hn (by omega)) ?_
  refine Wp.seq ?_
  refine Wp.region ?_
  refine s_fa (o2 := 0) rfl rfl rfl ?_
  refine s_ld rfl rfl (by rfl) ?_
  refine s_eq rfl rfl rfl ?_
  refine s_as rfl rfl ?_
  refine WpL.nil ?_
  refine Wp.condD rfl (fun h1 => ?_) (fun h1 => ?_)
  · refine Wp.seq ?_
    refine Wp.region ?_
    refine s_fa (o2 := 1) rfl rfl rfl ?_
    refine s_ld rfl rfl (by rfl) ?_
    refine s_callf rfl rfl (by repeat' constructor) (Bytes_spec _ (by omega)) ?_
    rintro _ _ ⟨rfl, rfl⟩
    simp only [napp]
    refine s_as rfl rfl ?_
    refine WpL.nil ?_
    refine Wp.ret ?_
    apply RetQ.mk
    · exact (Res.one rfl rfl)
    · exact ⟨by rw [show strd K W (wideM M) = (W + 7) / 8 from if_pos h1]; rfl, rfl⟩
    · first | exact Ent.refl _ | exact Ent.nil _ | exact Take.ent' (by repeat' constructor) | (repeat (first | exact Ent.refl _ | refine Ent.drop ?_))
  · refine Wp.skip ?_
    refine Wp.seq ?_
    apply Wp.draw mixed [⟨14, _, []⟩, ⟨15, _, [0]⟩, ⟨16, _, []⟩, ⟨17, _, [2]⟩, ⟨18, _, [3]⟩, ⟨19, _, [1, 4]⟩, ⟨20, _, []⟩, ⟨21, _, [6, 3]⟩, ⟨22, _, [5, 7]⟩, ⟨2, _, [8, 7, 0, 1, 2, 3, 4, 5, 6]⟩] rfl
    · refine AllObs.mk ?_ ?_
      · refine s_fa (o2 := 1) rfl rfl rfl ?_
        exact obN rfl
      refine AllObs.mk ?_ ?_
      · refine s_ld rfl rfl (by rfl) ?_
        exact obN rfl
      refine AllObs.mk ?_ ?_
      · refine s_lda (vs := [_, _, _, _]) rfl rfl rfl (by rfl) ?_
        exact obN rfl
      refine AllObs.mk ?_ ?_
      · refine s_callf rfl rfl (by repeat' constructor) (Format_spec _ _ _ _ (by omega)) ?_
        rintro _ _ ⟨rfl, rfl⟩
        simp only [napp]
        rw [show (if K % 3 = 0 then (3 : Int) else 1) = chK K from rfl]
        exact WpL.nil ⟨rfl, rfl, rfl, by first | exact Ent.refl _ | exact Ent.nil _ | exact Take.ent' (by repeat' constructor) | (repeat (first | exact Ent.refl _ | refine Ent.drop ?_))⟩
      refine AllObs.mk ?_ ?_
      · refine s_fv rfl rfl rfl ?_
        exact obN rfl
      refine AllObs.mk ?_ ?_
      · refine s_mul rfl rfl rfl (w_i64 (by omega) (by omega)) ?_
        exact obN rfl
      refine AllObs.mk ?_ ?_
      · refine s_lda (vs := [_, _, _, _]) rfl rfl rfl (by rfl) ?_
        exact obN rfl
      refine AllObs.mk ?_ ?_
      · refine s_callf rfl rfl (by repeat' constructor) (wide_spec _ _ _ _) ?_
        rintro _ _ ⟨rfl, rfl⟩
        simp only [napp]
        exact WpL.nil ⟨rfl, rfl, rfl, by first | exact Ent.refl _ | exact Ent.nil _ | exact Take.ent' (by repeat' constructor) | (repeat (first | exact Ent.refl _ | refine Ent.drop ?_))⟩
      refine AllObs.mk ?_ ?_
      · refine s_mul rfl rfl rfl (w_i64 (by omega) (by omega)) ?_
        exact obN rfl
      refine AllObs.mk ?_ ?_
      · refine s_as rfl rfl ?_
        exact obN rfl
      exact AllObs.nil
    · refine Wp.ret ?_
      apply RetQ.mk
      · exact (Res.one rfl rfl)
      · exact ⟨by rw [strd_int h1], rfl⟩
      · first | exact Ent.refl _ | exact Ent.nil _ | exact Take.ent' (by repeat' constructor) | (repeat (first | exact Ent.refl _ | refine Ent.drop ?_))

end Go.Proofs.YtggamdlpiejbiaaGreat
namespace Go.Proofs.YtggamdlpiejbiaaGreat
open Go.RowKit Go.Shelf

theorem RawNew_spec (K : Int) (W : Nat) (H M : Int) (hR : RawH K (W : Int) H M) : Fn Tryz.prog 124 #[.agg #[.int .i64 K, .int .i64 (W : Int), .int .i64 H, .int .i64 M]] [] (fun v l => ∃ g g2 b0, (b0 : List Int).length = strd K W (wideM M) ∧ (∀ x ∈ b0, x = 0) ∧ v = .tuple #[.pointer (some ⟨g, 0, none⟩), .int .i64 0] ∧ l = [blk g [.int .i64 K, .int .i64 (W : Int), .int .i64 H, .int .i64 M, .slice (some ⟨g2, 0, none⟩) b0.length b0.length, .int .i64 0, .int .i64 0, .int .i64 0, .int .i64 0] 198, own 5 1 (some ⟨g2, 0, none⟩) b0.length b0.length (u8s b0)]) := by
  have hb := hR.bd
  have hch := chK_13 K
  have hw := wideM_or M
  have hsb := strd_bd (K := K) (W := W) hw (by omega) (by omega)
  refine Fn.intro (vs := [.agg #[.int .i64 K, .int .i64 (W : Int), .int .i64 H, .int .i64 M]]) Tryz.func124 rfl Tryz.ntmps124 rfl ?_
  refine Wp.seq ?_
  refine Wp.region ?_
  refine s_box rfl rfl rfl ?_
  intro g1
  refine s_as rfl rfl ?_
  refine s_as rfl rfl ?_
  refine WpL.nil ?_
  refine Wp.seq ?_
  refine Wp.seq ?_
  refine Wp.region ?_
  refine s_lda (vs := [_, _, _, _]) rfl rfl rfl (by rfl) ?_
  refine s_callf rfl rfl (by repeat' constructor) (May_spec _ _ _ _) ?_
  rintro _ _ ⟨rfl, rfl⟩
  simp only [napp]
  rw [decide_eq_true hR.1]
  refine s_not rfl rfl ?_
  refine s_mv rfl rfl ?_
  refine WpL.gon rfl rfl ?_
  refine s_lda (vs := [_, _, _, _]) rfl rfl rfl (by rfl) ?_
  refine WpL.gon rfl rfl ?_
  refine s_callf rfl rfl (by repeat' constructor) (Raw_spec _ _ _ _) ?_
  rintro _ _ ⟨rfl, rfl⟩
  simp only [napp]
  refine WpL.gon rfl rfl ?_
  refine s_notD rfl rfl ?_
  refine s_pickF rfl rfl rfl ?_
  refine WpL.nil ?_
  refine Wp.condDF rfl (fun hn => hn (by omega)) ?_
  refine Wp.skip ?_
  refine Wp.seq ?_
  apply Wp.drawGN (fB := [blk g1 [.int .i64 K, .int .i64 (W : Int), .int .i64 H, .int .i64 M] 98]) mixed [(3, false), (1, false)] (by kernel_rfl)
  apply GoR.segF [⟨0, 12, _, [], true⟩, ⟨1, 13, _, [], false⟩, ⟨2, 14, _, [1], false⟩] [] [1, 2] [16, 17, 2, 3, 12] (.inl ⟨_, by repeat' constructor⟩) rfl rfl rfl (by kernel_rfl) rfl rfl rfl
  · refine AllF.consR rfl rfl rfl rfl ?_ ?_
    · refine s_lda (vs := [_, _, _, _]) rfl rfl rfl (by rfl) ?_
      exact obN rfl
    refine AllF.cons rfl rfl rfl rfl ?_ ?_
    · refine s_lda (vs := [_, _, _, _]) rfl rfl rfl (by rfl) ?_
      exact obN rfl
    refine AllF.cons rfl rfl rfl rfl ?_ ?_
    · refine s_callf rfl rfl (by repeat' constructor) (Stride_spec _ _ _ _ hR) ?_
      rintro _ _ ⟨rfl, rfl⟩
      simp only [napp]
      exact WpL.nil ⟨rfl, rfl, rfl, by first | exact Ent.refl _ | exact Ent.nil _ | exact Take.ent' (by repeat' constructor) | (repeat (first | exact Ent.refl _ | refine Ent.drop ?_))⟩
    exact AllF.nil
  · refine s_mko (strd K W (wideM M)) rfl rfl rfl (by omega) (by omega) rfl ?_
    intro gB
    rw [u8s_zero]
    refine WpL.nil ⟨rfl, rfl, ?_⟩
    apply GoR.segF [⟨4, 16, _, [0, 3], false⟩] [0] [0, 4] [2, 3] (.inl ⟨_, by repeat' constructor⟩) rfl rfl rfl (by kernel_rfl) rfl rfl rfl
    · refine AllF.cons rfl rfl rfl rfl ?_ ?_
      · refine s_bd rfl rfl ?_
        exact obN rfl
      exact AllF.nil
    · refine s_box rfl rfl rfl ?_
      intro g2
      refine WpL.nil ⟨rfl, rfl, ?_⟩
      apply GoR.nil [⟨6, 2, _, [0, 1, 2, 3, 4, 5], false⟩, ⟨7, 3, _, [0, 1, 2, 3, 4, 5, 6], false⟩] (.inr rfl) rfl rfl
      · refine AllF.cons rfl rfl rfl rfl ?_ ?_
        · refine s_as rfl rfl ?_
          exact obN rfl
        refine AllF.cons rfl rfl rfl rfl ?_ ?_
        · refine s_as rfl rfl ?_
          exact obN rfl
        exact AllF.nil
      · refine Wp.ret ?_
        obtain ⟨b0, hb0e, hb0l⟩ : ∃ b0 : List Int, b0 = List.replicate (strd K W (wideM M)) 0 ∧ b0.length = strd K W (wideM M) := ⟨_, rfl, by simp⟩
        rw [← hb0e, ← hb0l]
        apply RetQ.mk
        · exact (Res.two rfl rfl rfl)
        · exact ⟨_, gB, b0, rfl, fun x hx => by rw [hb0e] at hx; exact (List.mem_replicate.1 hx).2, rfl, rfl⟩
        · first | exact Ent.refl _ | exact Ent.nil _ | exact Take.ent' (by repeat' constructor) | (repeat (first | exact Ent.refl _ | refine Ent.drop ?_))

theorem RawSample_spec (K : Int) (W : Nat) (H M : Int) (_hR : RawH K (W : Int) H M) (g : Nat) (a1 : Option Addr) (c1 : Nat) (bs : List Int) (hbs : ∀ x ∈ bs, 0 ≤ x ∧ x ≤ 255) (hbl : bs.length ≤ 100000) (n rows last e : Int) (i : Nat) (hi : (i + 1) * wideM M ≤ bs.length) : Fn Tryz.prog 167 #[.pointer (some ⟨g, 0, none⟩), .int .i64 (i : Int)] [blk g [.int .i64 K, .int .i64 (W : Int), .int .i64 H, .int .i64 M, .slice a1 bs.length c1, .int .i64 n, .int .i64 rows, .int .i64 last, .int .i64 e] 198, own 5 1 a1 c1 bs.length (u8s bs)] (fun v l => v = .int .i64 (smpAt (wideM M) bs i) ∧ l = [blk g [.int .i64 K, .int .i64 (W : Int), .int .i64 H, .int .i64 M, .slice a1 bs.length c1, .int .i64 n, .int .i64 rows, .int .i64 last, .int .i64 e] 198, own 5 1 a1 c1 bs.length (u8s bs)]) := by
  have hw := wideM_or M
  refine Fn.intro (vs := [.pointer (some ⟨g, 0, none⟩), .int .i64 (i : Int)]) Tryz.func167 rfl Tryz.ntmps167 rfl ?_
  refine Wp.seq ?_
  refine Wp.region ?_
  refine s_as rfl rfl ?_
  refine WpL.nil ?_
  refine Wp.seq ?_
  refine Wp.seq ?_
  refine Wp.region ?_
  refine s_mv rfl rfl ?_
  refine s_nc rfl rfl ?_
  refine s_fa (o2 := 0) rfl rfl rfl ?_
  refine s_lda (vs := [_, _, _, _]) rfl rfl rfl (by rfl) ?_
  refine s_callf rfl rfl (by repeat' constructor) (wide_spec _ _ _ _) ?_
  rintro _ _ ⟨rfl, rfl⟩
  simp only [napp]
  refine s_eq rfl rfl rfl ?_
  refine WpL.nil ?_
  refine Wp.condD rfl (fun h0 => ?_) (fun h0 => ?_)
  · have hw1 : wideM M = 1 := by omega
    rw [hw1] at hi
    have hlt : i < bs.length := by omega
    have hx := hbs _ (List.getElem_mem hlt)
    refine Wp.seq ?_
    refine Wp.region ?_
    refine s_mv rfl rfl ?_
    refine s_nc rfl rfl ?_
    refine s_fa (o2 := 4) rfl rfl rfl ?_
    refine s_ld rfl rfl (by rfl) ?_
    refine s_mv rfl rfl ?_
    refine s_ixa i rfl rfl rfl RdsL.own (by first | exact Take.ent' (by repeat' constructor) | (repeat (first | exact Ent.refl _ | refine Ent.drop ?_))) rfl (by omega) (by rw [u8s_len]; omega) ?_
    refine s_ldx rfl rfl RdsL.own (by first | exact Take.ent' (by repeat' constructor) | (repeat (first | exact Ent.refl _ | refine Ent.drop ?_))) (u8s_at bs hlt) ?_
    first | refine s_cvi rfl Tryz.underlying5 rfl (w_i64 (by omega) (by omega)) ?_ | refine s_cviw rfl Tryz.underlying5 rfl ?_
    refine s_as rfl rfl ?_
    refine WpL.nil ?_
    refine Wp.ret ?_
    apply RetQ.mk
    · exact (Res.one rfl rfl)
    · exact ⟨by rw [hw1]; unfold smpAt; rw [if_pos rfl, List.getElem?_eq_getElem hlt]; rfl, rfl⟩
    · first | exact Ent.refl _ | exact Ent.nil _ | exact Take.ent' (by repeat' constructor) | (repeat (first | exact Ent.refl _ | refine Ent.drop ?_))
  · have hw2 : wideM M = 2 := by omega
    rw [hw2] at hi
    have hlt : 2 * i < bs.length := by omega
    have hlt2 : 2 * i + 1 < bs.length := by omega
    have hx := hbs _ (List.getElem_mem hlt)
    have hx2 := hbs _ (List.getElem_mem hlt2)
    refine Wp.skip ?_
    refine Wp.seq ?_
    apply Wp.draw mixed [⟨19, _, []⟩, ⟨20, _, [0]⟩, ⟨21, _, [1]⟩, ⟨22, _, [2]⟩, ⟨23, _, []⟩, ⟨24, _, [4]⟩, ⟨25, _, [3, 5]⟩, ⟨26, _, [6]⟩, ⟨27, _, [7]⟩, ⟨28, _, [8]⟩, ⟨29, _, []⟩, ⟨30, _, [10]⟩, ⟨31, _, [11]⟩, ⟨32, _, [12]⟩, ⟨33, _, []⟩, ⟨34, _, [14]⟩, ⟨35, _, [15]⟩, ⟨36, _, [13, 16]⟩, ⟨37, _, [17]⟩, ⟨38, _, [18]⟩, ⟨39, _, [9, 19]⟩, ⟨4, _, [20, 0, 1, 2, 3, 4, 5, 6, 7, 8, 9, 10, 11, 12, 13, 14, 15, 16, 17, 18, 19]⟩] rfl
    · refine AllObs.mk ?_ ?_
      · refine s_mv rfl rfl ?_
        exact obN rfl
      refine AllObs.mk ?_ ?_
      · refine s_nc rfl rfl ?_
        exact obN rfl
      refine AllObs.mk ?_ ?_
      · refine s_fa (o2 := 4) rfl rfl rfl ?_
        exact obN rfl
      refine AllObs.mk ?_ ?_
      · refine s_ld rfl rfl (by rfl) ?_
        exact obN rfl
      refine AllObs.mk ?_ ?_
      · refine s_mv rfl rfl ?_
        exact obN rfl
      refine AllObs.mk ?_ ?_
      · first | refine s_mul rfl rfl rfl (w_i64 (by omega) (by omega)) ?_ | refine s_mulw rfl rfl rfl ?_
        exact obN rfl
      refine AllObs.mk ?_ ?_
      · refine s_ixa (2 * i) rfl rfl rfl RdsL.own (by first | exact Take.ent' (by repeat' constructor) | (repeat (first | exact Ent.refl _ | refine Ent.drop ?_))) (by omega) (by omega) (by rw [u8s_len]; omega) ?_
        exact obN rfl
      refine AllObs.mk ?_ ?_
      · refine s_ldx rfl rfl RdsL.own (by first | exact Take.ent' (by repeat' constructor) | (repeat (first | exact Ent.refl _ | refine Ent.drop ?_))) (u8s_at bs hlt) ?_
        exact obN rfl
      refine AllObs.mk ?_ ?_
      · first | refine s_cvi rfl Tryz.underlying5 rfl (w_i64 (by omega) (by omega)) ?_ | refine s_cviw rfl Tryz.underlying5 rfl ?_
        exact obN rfl
      refine AllObs.mk ?_ ?_
      · refine s_shl 256 rfl rfl rfl (by decide) (w_i64 (by omega) (by omega)) ?_
        exact obN rfl
      refine AllObs.mk ?_ ?_
      · refine s_mv rfl rfl ?_
        exact obN rfl
      refine AllObs.mk ?_ ?_
      · refine s_nc rfl rfl ?_
        exact obN rfl
      refine AllObs.mk ?_ ?_
      · refine s_fa (o2 := 4) rfl rfl rfl ?_
        exact obN rfl
      refine AllObs.mk ?_ ?_
      · refine s_ld rfl rfl (by rfl) ?_
        exact obN rfl
      refine AllObs.mk ?_ ?_
      · refine s_mv rfl rfl ?_
        exact obN rfl
      refine AllObs.mk ?_ ?_
      · first | refine s_mul rfl rfl rfl (w_i64 (by omega) (by omega)) ?_ | refine s_mulw rfl rfl rfl ?_
        exact obN rfl
      refine AllObs.mk ?_ ?_
      · first | refine s_add rfl rfl rfl (w_i64 (by omega) (by omega)) ?_ | refine s_addw rfl rfl rfl ?_
        exact obN rfl
      refine AllObs.mk ?_ ?_
      · refine s_ixa (2 * i + 1) rfl rfl rfl RdsL.own (by first | exact Take.ent' (by repeat' constructor) | (repeat (first | exact Ent.refl _ | refine Ent.drop ?_))) (by omega) (by omega) (by rw [u8s_len]; omega) ?_
        exact obN rfl
      refine AllObs.mk ?_ ?_
      · refine s_ldx rfl rfl RdsL.own (by first | exact Take.ent' (by repeat' constructor) | (repeat (first | exact Ent.refl _ | refine Ent.drop ?_))) (u8s_at bs hlt2) ?_
        exact obN rfl
      refine AllObs.mk ?_ ?_
      · first | refine s_cvi rfl Tryz.underlying5 rfl (w_i64 (by omega) (by omega)) ?_ | refine s_cviw rfl Tryz.underlying5 rfl ?_
        exact obN rfl
      refine AllObs.mk ?_ ?_
      · refine s_or (bs[2 * i]'hlt) 8 rfl rfl rfl rfl hx.1 (by simp only [IntKind.bits]; omega) hx2.1 (by omega) (by decide) (w_i64 (by omega) (by omega)) ?_
        exact obN rfl
      refine AllObs.mk ?_ ?_
      · refine s_as rfl rfl ?_
        exact obN rfl
      exact AllObs.nil
    · refine Wp.ret ?_
      apply RetQ.mk
      · exact (Res.one rfl rfl)
      · exact ⟨by rw [hw2]; unfold smpAt; rw [if_neg (by decide), List.getElem?_eq_getElem hlt, List.getElem?_eq_getElem hlt2]; rfl, rfl⟩
      · first | exact Ent.refl _ | exact Ent.nil _ | exact Take.ent' (by repeat' constructor) | (repeat (first | exact Ent.refl _ | refine Ent.drop ?_))

end Go.Proofs.YtggamdlpiejbiaaGreat
