/- Walks and plain laws, a part of the proof of ImageTurns: every input that the law's guards let in, no condition beside. -/
import Derived.ArgAppend
import Derived.Test.YtggamdlpiejbiaaGreatM19
namespace Go.Proofs.YtggamdlpiejbiaaGreat
open Go.RowKit Go.Shelf

theorem readW_cons (K : Int) (W : Nat) (H M : Int) (c : Int) (bs : List Int) (s : RW) (acc : List Int) : YK K W H M (c :: bs) s acc = if (Xm K W H M s c).1.last = 1 then (acc ++ (Xm K W H M s c).2, 0) else if (Xm K W H M s c).1.last = 2 then ([], (Xm K W H M s c).1.e) else YK K W H M bs (Xm K W H M s c).1 (acc ++ (Xm K W H M s c).2) := rfl
theorem putW_st {K H M c : Int} {W : Nat} {s : RW} (hl : s.last = 0) : ((Xm K W H M s c).1.last = 0 ∨ (Xm K W H M s c).1.last = 1 ∨ (Xm K W H M s c).1.last = 2) ∧ ((Xm K W H M s c).1.last = 2 → (Xm K W H M s c).1.e = 5 ∧ (Xm K W H M s c).2 = []) := by
  unfold Xm
  rw [if_neg (by omega)]
  repeat' split
  all_goals simp
theorem row_flat (row : List Int) (t : Int) : (atE (rowE row) t).flatMap (fun x => x.1.row) = row ∧ ∀ x ∈ atE (rowE row) t, x.1.k = 2 := by
  unfold atE rowE
  by_cases h : row = [] <;> simp [h]
theorem readW_run (l0 l1 l2 : Int) (h : HS) : ∀ (bs : List Int) (s : RW) (t imgs : Int) (acc : List Int), s.last = 0 →
    ((YK h.K h.W.toNat h.H h.M bs s acc).2 = 0 ∧ imgs < (Xi l0 l1 l2 ⟨some h, 2, .rw s, t, imgs, false, 0⟩ bs).1.imgs ∧ ∃ rows t' rest, (∀ x ∈ rows, x.1.k = 2) ∧ (Xi l0 l1 l2 ⟨some h, 2, .rw s, t, imgs, false, 0⟩ bs).2 = rows ++ dnE t' :: rest ∧ (YK h.K h.W.toNat h.H h.M bs s acc).1 = acc ++ rows.flatMap fun x => x.1.row) ∨
    ((YK h.K h.W.toNat h.H h.M bs s acc) = ([], 5) ∧ (Xi l0 l1 l2 ⟨some h, 2, .rw s, t, imgs, false, 0⟩ bs).1.e = 5 ∧ (Xi l0 l1 l2 ⟨some h, 2, .rw s, t, imgs, false, 0⟩ bs).1.imgs = imgs) ∨
    ((YK h.K h.W.toNat h.H h.M bs s acc) = ([], 6) ∧ (Xi l0 l1 l2 ⟨some h, 2, .rw s, t, imgs, false, 0⟩ bs).1.e = 0 ∧ (Xi l0 l1 l2 ⟨some h, 2, .rw s, t, imgs, false, 0⟩ bs).1.imgs = imgs)
  | [], s, t, imgs, acc, _ => .inr (.inr ⟨rfl, rfl, rfl⟩)
  | c :: bs, s, t, imgs, acc, hl => by
    have hq := put_rw l0 l1 l2 (h := h) (r := s) (told := t) (imgs := imgs) (c := c)
    have hr := run_evts l0 l1 l2 (bs := bs) hq
    have hst := putW_st (K := h.K) (W := h.W.toNat) (H := h.H) (M := h.M) (c := c) hl
    have hf := row_flat (Xm h.K h.W.toNat h.H h.M s c).2 (t + 1)
    rw [readW_cons]
    rcases hst.1 with h0 | h1 | h2
    · rw [hr.1 h0, if_neg (by omega), if_neg (by omega)]
      rcases readW_run l0 l1 l2 h bs (Xm h.K h.W.toNat h.H h.M s c).1 (t + 1) imgs (acc ++ (Xm h.K h.W.toNat h.H h.M s c).2) h0 with ⟨g1, g2, rows, t', rest, g3, g4, g5⟩ | g | g
      · refine .inl ⟨g1, g2, atE (rowE (Xm h.K h.W.toNat h.H h.M s c).2) (t + 1) ++ rows, t', rest, ?_, ?_, ?_⟩
        · intro x hx
          rcases List.mem_append.1 hx with hx | hx
          · exact hf.2 x hx
          · exact g3 x hx
        · show _ ++ _ = _
          rw [g4, List.append_assoc]
        · rw [g5, List.flatMap_append, hf.1, List.append_assoc]
      · exact .inr (.inl g)
      · exact .inr (.inr g)
    · rw [hr.2.1 h1, if_pos h1]
      refine .inl ⟨rfl, ?_, atE (rowE (Xm h.K h.W.toNat h.H h.M s c).2) (t + 1), t + 1, (Xi l0 l1 l2 ⟨some h, 0, .no, t + 1, imgs + 1, false, 0⟩ bs).2, hf.2, ?_, ?_⟩
      · show _ < (Xi l0 l1 l2 ⟨some h, 0, .no, t + 1, imgs + 1, false, 0⟩ bs).1.imgs
        rw [ZC]
        have : 0 ≤ Zl ((Xi l0 l1 l2 ⟨some h, 0, .no, t + 1, imgs + 1, false, 0⟩ bs).2.map (·.1)) := by unfold Zl; omega
        show imgs < imgs + 1 + _
        omega
      · show (_ ++ [_]) ++ _ = _
        rw [List.append_assoc]; rfl
      · show acc ++ _ = acc ++ _
        rw [hf.1]
    · have he := (hst.2 h2).1
      rw [hr.2.2 h2 (by omega), if_neg (by omega), if_pos h2, he]
      exact .inr (.inl ⟨rfl, rfl, rfl⟩)
theorem readW_ind {K H M : Int} {W : Nat} : ∀ (bs : List Int) (b b' : List Int) (n : Nat) (rows e : Int) (acc : List Int), b.length = b'.length → n < b.length → b.take n = b'.take n → YK K W H M bs ⟨b, n, rows, 0, e⟩ acc = YK K W H M bs ⟨b', n, rows, 0, e⟩ acc
  | [], _, _, _, _, _, _, _, _, _ => rfl
  | c :: bs, b, b', n, rows, e, acc, hl, hn, ht => by
    have hs : (b.set n c).take (n + 1) = (b'.set n c).take (n + 1) := by
      rw [List.take_set, List.take_set, List.take_succ_eq_append_getElem hn, List.take_succ_eq_append_getElem (show n < b'.length by omega), ht, List.set_append_right _ _ (by rw [List.length_take]; omega), List.set_append_right _ _ (by rw [List.length_take]; omega)]
      rw [show n - (b'.take n).length = 0 by rw [List.length_take]; omega]
      rfl
    have hw := Q4 M
    have hsm : (n + 1) % Qi M = 0 → XH (Qi M) (b.set n c) ((n + 1) / Qi M - 1) = XH (Qi M) (b'.set n c) ((n + 1) / Qi M - 1) := fun hm => by
      have hx : ((n + 1) / Qi M - 1 + 1) * Qi M = n + 1 := by rcases hw with e | e <;> rw [e] at hm ⊢ <;> omega
      exact smp_take hw hs (by omega)
    have hsl : (b.set n c).length = (b'.set n c).length := by rw [List.length_set, List.length_set, hl]
    have p : ∀ b : List Int, Xm K W H M ⟨b, n, rows, 0, e⟩ c = (if K ≠ 4 ∧ (n + 1) % Qi M = 0 ∧ XH (Qi M) (b.set n c) ((n + 1) / Qi M - 1) > M then (⟨b.set n c, n + 1, rows, 2, 5⟩, []) else if n + 1 < b.length then (⟨b.set n c, n + 1, rows, 0, e⟩, []) else (⟨b.set n c, 0, rows + 1, if rows + 1 = H then 1 else 0, e⟩, YG K W (Qi M) (b.set n c))) := fun b => if_neg (by simp)
    rw [readW_cons, readW_cons, p b, p b']
    by_cases hb : K ≠ 4 ∧ (n + 1) % Qi M = 0 ∧ XH (Qi M) (b.set n c) ((n + 1) / Qi M - 1) > M
    · have hb' : K ≠ 4 ∧ (n + 1) % Qi M = 0 ∧ XH (Qi M) (b'.set n c) ((n + 1) / Qi M - 1) > M := ⟨hb.1, hb.2.1, by rw [← hsm hb.2.1]; exact hb.2.2⟩
      rw [if_pos hb, if_pos hb']
      rfl
    · have hb' : ¬ (K ≠ 4 ∧ (n + 1) % Qi M = 0 ∧ XH (Qi M) (b'.set n c) ((n + 1) / Qi M - 1) > M) := fun q => hb ⟨q.1, q.2.1, by rw [hsm q.2.1]; exact q.2.2⟩
      rw [if_neg hb, if_neg hb']
      by_cases h1 : n + 1 < b.length
      · rw [if_pos h1, if_pos (show n + 1 < b'.length by omega)]
        simp only [show ¬ (0 : Int) = 1 by decide, show ¬ (0 : Int) = 2 by decide, if_false]
        exact readW_ind bs (b.set n c) (b'.set n c) (n + 1) rows e _ hsl (by rw [List.length_set]; exact h1) hs
      · have he : b.set n c = b'.set n c := by
          rw [List.take_of_length_le (by rw [List.length_set]; omega), List.take_of_length_le (by rw [List.length_set]; omega)] at hs
          exact hs
        rw [if_neg h1, if_neg (show ¬ n + 1 < b'.length by omega), he]
theorem badR_leT {K M : Int} {W H : Nat} {R : List Int} : YT K W H M R ≤ ((R.take (QD K W (Qi M) * H)).length : Int) := by
  by_cases hK : K = 4
  · unfold YT
    rw [if_pos hK]; omega
  · rw [badR_n4 hK]
    rcases badI_spec ((Qi M : Nat) : Int) M (Zp (Qi M) (R.take (QD K W (Qi M) * H))) 0 with ⟨h1, _⟩ | ⟨j, hj, _, _, h3⟩
    · rw [h1]; omega
    · rw [h3]
      have hl : (Zp (Qi M) (R.take (QD K W (Qi M) * H))).length = (R.take (QD K W (Qi M) * H)).length / Qi M := by simp [Zp]
      rw [hl] at hj
      have hw := Q4 M
      have : Qi M * (j + 1) ≤ (R.take (QD K W (Qi M) * H)).length := by
        rcases hw with e | e <;> rw [e] at hj ⊢ <;> omega
      have h4 : ((Qi M * (j + 1) : Nat) : Int) ≤ ((R.take (QD K W (Qi M) * H)).length : Int) := by exact_mod_cast this
      push_cast at h4
      rw [Int.zero_add]
      omega
def rowsF (K : Int) (W : Nat) (M : Int) (bs : List Int) (n : Nat) : List Int := (List.range n).flatMap fun y => YG K W (Qi M) ((bs.drop (y * QD K W (Qi M))).take (QD K W (Qi M)))
/-- What a raw raster's bytes tell. -/
def rawF (K : Int) (W H : Nat) (M : Int) (bs : List Int) : List Int × Int := if YT K W H M bs > 0 then ([], 5) else if bs.length < QD K W (Qi M) * H then ([], 6) else (rowsF K W M bs H, 0)
def rowsX (h : HS) (bs : List Int) (y : Nat) : List (Evt × Int) := (List.range y).map fun i => (⟨2, 0, 0, 0, 0, YG h.K h.W.toNat (Qi h.M) ((bs.drop (0 + i * QD h.K h.W.toNat (Qi h.M))).take (QD h.K h.W.toNat (Qi h.M)))⟩, ((0 + (i + 1) * QD h.K h.W.toNat (Qi h.M) : Nat) : Int))
theorem rowsX_succ (h : HS) (bs : List Int) (y : Nat) : rowsX h bs (y + 1) = rowsX h bs y ++ [(⟨2, 0, 0, 0, 0, YG h.K h.W.toNat (Qi h.M) ((bs.drop (0 + y * QD h.K h.W.toNat (Qi h.M))).take (QD h.K h.W.toNat (Qi h.M)))⟩, ((0 + (y + 1) * QD h.K h.W.toNat (Qi h.M) : Nat) : Int))] := by unfold rowsX; rw [List.range_succ, List.map_append]; rfl
theorem rowsX_flat (h : HS) (bs : List Int) (y : Nat) : (rowsX h bs y).flatMap (fun x => x.1.row) = rowsF h.K h.W.toNat h.M bs y := by
  unfold rowsX rowsF
  rw [List.flatMap_map]
  simp only [Nat.zero_add]
theorem rowsX_k (h : HS) (bs : List Int) (y : Nat) : ∀ x ∈ rowsX h bs y, x.1.k = 2 := by
  intro x hx
  obtain ⟨i, _, rfl⟩ := List.mem_map.1 hx
  rfl
theorem split3 : ∀ {a b : List (Evt × Int)} {t t' : Int} {r r' : List (Evt × Int)}, (∀ x ∈ a, x.1.k = 2) → (∀ x ∈ b, x.1.k = 2) → a ++ dnE t :: r = b ++ dnE t' :: r' → a = b
  | [], [], _, _, _, _, _, _, _ => rfl
  | x :: a, [], t, t', r, r', h1, _, e => by
    have := (List.cons.inj e).1
    have hk := h1 x (List.mem_cons_self ..)
    rw [this] at hk
    simp [dnE] at hk
  | [], y :: b, t, t', r, r', _, h2, e => by
    have := (List.cons.inj e).1
    have hk := h2 y (List.mem_cons_self ..)
    rw [← this] at hk
    simp [dnE] at hk
  | x :: a, y :: b, t, t', r, r', h1, h2, e => by
    obtain ⟨e1, e2⟩ := List.cons.inj e
    rw [e1, split3 (fun z hz => h1 z (List.mem_cons_of_mem _ hz)) (fun z hz => h2 z (List.mem_cons_of_mem _ hz)) e2]
theorem readW_body {h : HS} (hf : Zz h) (bs : List Int) : ∀ (m y : Nat), m + y = h.H.toNat → rwI 1 1 1 h bs 0 0 y (rowsX h bs y) → y * QD h.K h.W.toNat (Qi h.M) ≤ bs.length → ¬ (YT h.K h.W.toNat h.H.toNat h.M bs > 0 ∧ YT h.K h.W.toNat h.H.toNat h.M bs ≤ ((y * QD h.K h.W.toNat (Qi h.M) : Nat) : Int)) →
    YK h.K h.W.toNat h.H h.M bs (rw0 h) [] = rawF h.K h.W.toNat h.H.toNat h.M bs := by
  have hM := hf.2.2
  unfold X6 at hM
  have hble := badR_leT (K := h.K) (M := h.M) (W := h.W.toNat) (H := h.H.toNat) (R := bs)
  rw [List.length_take] at hble
  have hrun := readW_run 1 1 1 h bs (rw0 h) 0 0 [] rfl
  intro m
  induction m with
  | zero =>
    intro y hm hI hy hb
    have hyH : (y : Int) = h.H := by omega
    have hI2 := hI.2 hyH
    rw [List.drop_zero] at hI2
    have hyn : y = h.H.toNat := by omega
    subst hyn
    have hmul : h.H.toNat * QD h.K h.W.toNat (Qi h.M) = QD h.K h.W.toNat (Qi h.M) * h.H.toNat := Nat.mul_comm _ _
    have hnb : ¬ YT h.K h.W.toNat h.H.toNat h.M bs > 0 := fun q => hb ⟨q, by rw [hmul]; omega⟩
    unfold rawF
    rw [if_neg hnb, if_neg (by rw [← hmul]; omega)]
    have hpr : Xi 1 1 1 ⟨some h, 2, .rw (rw0 h), ((0 : Nat) : Int), 0, false, 0⟩ bs = Xi 1 1 1 ⟨some h, 2, .rw (rw0 h), 0, 0, false, 0⟩ bs := rfl
    rcases hrun with ⟨g1, g2, rows, t', rest, g3, g4, g5⟩ | ⟨_, _, g2⟩ | ⟨_, _, g2⟩
    · rw [← hpr, hI2] at g4
      have e := split3 (rowsX_k h bs _) g3 (by rw [← g4]; show _ = (_ ++ [_]) ++ _; rw [List.append_assoc]; rfl)
      subst e
      refine Prod.ext ?_ g1
      rw [g5, rowsX_flat]; rfl
    · exfalso
      rw [← hpr, hI2] at g2
      have q := ZC 1 1 1 (bs.drop (0 + h.H.toNat * QD h.K h.W.toNat (Qi h.M))) ⟨some h, 0, .no, ((0 + h.H.toNat * QD h.K h.W.toNat (Qi h.M) : Nat) : Int), 0 + 1, false, 0⟩
      have z : 0 ≤ Zl ((Xi 1 1 1 ⟨some h, 0, .no, ((0 + h.H.toNat * QD h.K h.W.toNat (Qi h.M) : Nat) : Int), 0 + 1, false, 0⟩ (bs.drop (0 + h.H.toNat * QD h.K h.W.toNat (Qi h.M)))).2.map (·.1)) := by unfold Zl; omega
      simp only [Zu] at g2
      rw [g2] at q
      dsimp only at q
      omega
    · exfalso
      rw [← hpr, hI2] at g2
      have q := ZC 1 1 1 (bs.drop (0 + h.H.toNat * QD h.K h.W.toNat (Qi h.M))) ⟨some h, 0, .no, ((0 + h.H.toNat * QD h.K h.W.toNat (Qi h.M) : Nat) : Int), 0 + 1, false, 0⟩
      have z : 0 ≤ Zl ((Xi 1 1 1 ⟨some h, 0, .no, ((0 + h.H.toNat * QD h.K h.W.toNat (Qi h.M) : Nat) : Int), 0 + 1, false, 0⟩ (bs.drop (0 + h.H.toNat * QD h.K h.W.toNat (Qi h.M)))).2.map (·.1)) := by unfold Zl; omega
      simp only [Zu] at g2
      rw [g2] at q
      dsimp only at q
      omega
  | succ m ih =>
    intro y hm hI hy hb
    have hyH : (y : Int) < h.H := by omega
    have hy1 : (y + 1) * QD h.K h.W.toNat (Qi h.M) = y * QD h.K h.W.toNat (Qi h.M) + QD h.K h.W.toNat (Qi h.M) := by rw [Nat.add_mul, Nat.one_mul]
    have hbd : bs.drop 0 = bs := List.drop_zero
    by_cases hbb : YT h.K h.W.toNat h.H.toNat h.M bs > 0 ∧ YT h.K h.W.toNat h.H.toNat h.M bs ≤ (((y + 1) * QD h.K h.W.toNat (Qi h.M) : Nat) : Int)
    · have hBo := rw_bad' (fin := false) hf hI hyH (by rw [hbd]; exact hbb.1) (by rw [hbd]; exact hbb.2) (by rw [hbd]; exact fun q => hb ⟨hbb.1, q⟩)
      obtain ⟨s', e1, e2, _, e4⟩ := hBo.2 (by decide)
      simp only [psFin, if_neg (show ¬ false = true by decide)] at e1
      unfold rawF
      rw [if_pos hbb.1]
      have hpr : Xi 1 1 1 ⟨some h, 2, .rw (rw0 h), 0, 0, false, 0⟩ bs = (s', rowsX h bs y) := e1
      rw [hpr] at hrun
      rcases hrun with ⟨_, g2, _⟩ | ⟨g, _⟩ | ⟨_, g, _⟩
      · simp only at g2; omega
      · exact g
      · simp only at g; rw [g, if_neg (by decide)] at e2; omega
    · by_cases hl : (y + 1) * QD h.K h.W.toNat (Qi h.M) ≤ bs.length
      · have hR := rw_row hf hI hyH (by rw [hbd]; exact hbb) (by omega)
        rw [← rowsX_succ] at hR
        exact ih (y + 1) (by omega) hR hl hbb
      · have hBo := rw_short (fin := false) hf hI hyH (by omega) (by rw [hbd]; exact hbb) (by omega)
        obtain ⟨s', e1, e2, _, e4⟩ := hBo.2 (by decide)
        simp only [psFin, if_neg (show ¬ false = true by decide)] at e1
        have hpr : Xi 1 1 1 ⟨some h, 2, .rw (rw0 h), 0, 0, false, 0⟩ bs = (s', rowsX h bs y) := e1
        have hyl : (y + 1) * QD h.K h.W.toNat (Qi h.M) ≤ h.H.toNat * QD h.K h.W.toNat (Qi h.M) := Nat.mul_le_mul_right _ (by omega)
        have hmul : h.H.toNat * QD h.K h.W.toNat (Qi h.M) = QD h.K h.W.toNat (Qi h.M) * h.H.toNat := Nat.mul_comm _ _
        unfold rawF
        rw [if_neg (fun q => hbb ⟨q, by omega⟩), if_pos (by omega)]
        rw [hpr] at hrun
        rcases hrun with ⟨_, g2, _⟩ | ⟨_, g, _⟩ | ⟨g, _⟩
        · simp only at g2; omega
        · simp only at g
          rw [g] at e2
          simp at e2
        · exact g
/-- A raw raster read at once, whatever its row was before. -/
theorem readW_raw {h : HS} (hf : Zz h) (bs b0 : List Int) (hb : b0.length = QD h.K h.W.toNat (Qi h.M)) (hp : 0 < b0.length) : YK h.K h.W.toNat h.H h.M bs ⟨b0, 0, 0, 0, 0⟩ [] = rawF h.K h.W.toNat h.H.toNat h.M bs := by
  have hM := hf.2.2
  unfold X6 at hM
  rw [← readW_body hf bs h.H.toNat 0 (by omega) (rwI0 (by omega)) (by omega) (fun q => by have := q.2; simp at this; omega)]
  exact readW_ind bs b0 _ 0 0 0 [] (by rw [hb]; simp) hp (by simp)

end Go.Proofs.YtggamdlpiejbiaaGreat
namespace Go.Proofs.YtggamdlpiejbiaaGreat
open Go.RowKit Go.Shelf

theorem hWrite_spec (K W H M : Int) (hM : X6 K W H M) : Fn Tryz.prog 87 #[.agg #[.int .i64 K, .int .i64 W, .int .i64 H, .int .i64 M]] [] (fun v l => ∃ s, QW s = hdW K W H M ∧ v = .tuple #[.string s, .int .i64 0] ∧ l = []) := by
 have hM2 := hM
 unfold X6 at hM2
 have hs1 := digs_sz (n := K) (by omega)
 have hs2 := digs_sz (n := W) (by omega)
 have hs3 := digs_sz (n := H) (by omega)
 have hs4 := digs_sz (n := M) (by omega)
 refine Qk (vs := [.agg #[.int .i64 K, .int .i64 W, .int .i64 H, .int .i64 M]]) Tryz.func87 rfl Tryz.ntmps87 rfl (Qb (Qa (QP rfl rfl rfl ?_)))
 intro gH
 refine Qe rfl rfl (Qe rfl rfl (WpL.nil (Qb (Qb (Qa ?_)))))
 refine Qz (vs := [_, _, _, _]) rfl rfl rfl (by rfl) ?_
 refine Qg rfl rfl (by repeat' constructor) (May_spec _ _ _ _) ?_
 rintro _ _ ⟨rfl, rfl⟩
 simp only [Qr]
 refine XY rfl rfl (WpL.nil (Qm rfl (fun h0 => ?_) (fun h0 => ?_)))
 ·exfalso; exact absurd hM h0
 ·refine Wp.skip (Qb ?_)
  apply QS mixed [⟨8, _, []⟩, ⟨9, _, [0]⟩, ⟨10, _, [1]⟩, ⟨11, _, [2]⟩, ⟨12, _, [3]⟩, ⟨13, _, []⟩, ⟨14, _, [5]⟩, ⟨15, _, [6, 2]⟩, ⟨16, _, [4, 7]⟩, ⟨17, _, [8]⟩, ⟨18, _, []⟩, ⟨19, _, [10]⟩, ⟨20, _, [11, 7]⟩, ⟨21, _, [9, 12]⟩, ⟨22, _, [13]⟩, ⟨4, _, [14, 12, 0, 1, 2, 3, 4, 5, 6, 7, 8, 9, 10, 11, 13]⟩] rfl
  ·refine AllObs.mk ?_ ?_
   ·exact Qj (o2 := 0) rfl rfl rfl (Ql rfl)
   refine AllObs.mk ?_ ?_
   ·refine Qo rfl rfl (by rfl) ?_
    exact Ql rfl
   refine AllObs.mk ?_ ?_
   ·refine Qg rfl rfl (by repeat' constructor) (YX _ (by omega) (by omega)) ?_
    rintro _ _ ⟨rfl, rfl⟩
    simp only [Qr]
    exact WpL.nil ⟨rfl, rfl, rfl, by exact Ent.refl _⟩
   refine AllObs.mk ?_ ?_
   ·refine s_cat rfl rfl rfl (by simp only [lit1]; omega) ?_
    exact Ql rfl
   refine AllObs.mk ?_ ?_
   ·refine s_cat rfl rfl rfl (by simp only [ByteArray.size_append, lit1]; omega) ?_
    exact Ql rfl
   refine AllObs.mk ?_ ?_
   ·exact Qj (o2 := 1) rfl rfl rfl (Ql rfl)
   refine AllObs.mk ?_ ?_
   ·refine Qo rfl rfl (by rfl) ?_
    exact Ql rfl
   refine AllObs.mk ?_ ?_
   ·refine Qg rfl rfl (by repeat' constructor) (YX _ (by omega) (by omega)) ?_
    rintro _ _ ⟨rfl, rfl⟩
    simp only [Qr]
    exact WpL.nil ⟨rfl, rfl, rfl, by exact Ent.refl _⟩
   refine AllObs.mk ?_ ?_
   ·refine s_cat rfl rfl rfl (by simp only [ByteArray.size_append, lit1]; omega) ?_
    exact Ql rfl
   refine AllObs.mk ?_ ?_
   ·refine s_cat rfl rfl rfl (by simp only [ByteArray.size_append, lit1]; omega) ?_
    exact Ql rfl
   refine AllObs.mk ?_ ?_
   ·exact Qj (o2 := 2) rfl rfl rfl (Ql rfl)
   refine AllObs.mk ?_ ?_
   ·refine Qo rfl rfl (by rfl) ?_
    exact Ql rfl
   refine AllObs.mk ?_ ?_
   ·refine Qg rfl rfl (by repeat' constructor) (YX _ (by omega) (by omega)) ?_
    rintro _ _ ⟨rfl, rfl⟩
    simp only [Qr]
    exact WpL.nil ⟨rfl, rfl, rfl, by exact Ent.refl _⟩
   refine AllObs.mk ?_ ?_
   ·refine s_cat rfl rfl rfl (by simp only [ByteArray.size_append, lit1]; omega) ?_
    exact Ql rfl
   refine AllObs.mk ?_ ?_
   ·refine s_cat rfl rfl rfl (by simp only [ByteArray.size_append, lit1]; omega) ?_
    exact Ql rfl
   refine AllObs.mk ?_ ?_
   ·exact Qe rfl rfl (Ql rfl)
   exact AllObs.nil
  ·refine Qb (Qb (Qa ?_))
   refine Qz (vs := [_, _, _, _]) rfl rfl rfl (by rfl) ?_
   refine Qg rfl rfl (by repeat' constructor) (bits_spec _ _ _ _) ?_
   rintro _ _ ⟨rfl, rfl⟩
   simp only [Qr]
   refine XY rfl rfl (WpL.nil (Qm rfl (fun h1 => ?_) (fun h1 => ?_)))
   ·refine Qa (Qd rfl rfl (Qj (o2 := 3) rfl rfl rfl (Qo rfl rfl (by rfl) ?_)))
    refine Qg rfl rfl (by repeat' constructor) (YX _ (by omega) (by omega)) ?_
    rintro _ _ ⟨rfl, rfl⟩
    simp only [Qr]
    refine s_cat rfl rfl rfl (by simp only [lit1]; omega) ?_
    refine s_cat rfl rfl rfl (by simp only [ByteArray.size_append, lit1]; omega) ?_
    refine Qe rfl rfl (WpL.nil (Qb (Qa (Qd rfl rfl (Qe rfl rfl (Qe rfl rfl (WpL.nil (Qh ?_))))))))
    apply RetQ.mk
    ·exact (QF rfl rfl rfl)
    ·exact ⟨_, by simp only [bsOf_app, digs_str]; rw [hdW, if_neg (by assumption)]; simp [QW], rfl, rfl⟩
    ·exact Ent.nil _
   ·refine Wp.skip (Qb (Qa (Qd rfl rfl (Qe rfl rfl (Qe rfl rfl (WpL.nil (Qh ?_)))))))
    apply RetQ.mk
    ·exact (QF rfl rfl rfl)
    ·exact ⟨_, by simp only [bsOf_app, digs_str]; rw [hdW, if_pos (Classical.not_not.1 (by assumption))]; simp [QW], rfl, rfl⟩
    ·exact Ent.nil _


theorem hdRun_one (l0 l1 l2 : Int) {h : HS} {c n : Int} {bs : List Int} (h0 : (XA l0 l1 l2 h c).last = 0) : XE l0 l1 l2 h (c :: bs) n = XE l0 l1 l2 (XA l0 l1 l2 h c) bs (n + 1) := by rw [XE, if_neg (by omega)]
theorem hdRun_fin (l0 l1 l2 : Int) {h : HS} {c n : Int} {bs : List Int} (h0 : (XA l0 l1 l2 h c).last ≠ 0) : XE l0 l1 l2 h (c :: bs) n = (XA l0 l1 l2 h c, n + 1) := by rw [XE, if_pos h0]
structure HpX where
  (k : Nat) (h : HS)

theorem hParse_spec (a b d : Int) (s : ByteArray) (hsz : s.size ≤ 1000000000000) : Fn Tryz.prog 74 #[.string s, .agg #[.int .i64 a, .int .i64 b, .int .i64 d]] [] (fun v l => v = (if (XV (Xv a) (Xw b) (Xx d) (QW s)).2.2 = 0 then .tuple #[.agg #[.int .i64 (XV (Xv a) (Xw b) (Xx d) (QW s)).1.1, .int .i64 (XV (Xv a) (Xw b) (Xx d) (QW s)).1.2.1, .int .i64 (XV (Xv a) (Xw b) (Xx d) (QW s)).1.2.2.1, .int .i64 (XV (Xv a) (Xw b) (Xx d) (QW s)).1.2.2.2], .int .i64 (XV (Xv a) (Xw b) (Xx d) (QW s)).2.1, .int .i64 0] else .tuple #[.agg #[.int .i64 0, .int .i64 0, .int .i64 0, .int .i64 0], .int .i64 0, .int .i64 (XV (Xv a) (Xw b) (Xx d) (QW s)).2.2]) ∧ l = []) := by
 refine Qk (vs := [.string s, .agg #[.int .i64 a, .int .i64 b, .int .i64 d]]) Tryz.func74 rfl Tryz.ntmps74 rfl (Qb (Qa (QP rfl rfl rfl ?_)))
 intro gB
 refine XK rfl ?_
 intro gC
 refine Qe rfl rfl (Qe rfl rfl (WpL.nil (Qb (Qa ?_))))
 refine Qz (vs := [_, _, _]) rfl rfl rfl (by rfl) ?_
 refine Qg rfl rfl (by repeat' constructor) (hdNew_rep a b d) ?_
 rintro _ _ ⟨g, rfl, rfl⟩
 simp only [Qr]
 refine Qe rfl rfl (WpL.nil (Qb (Qb (Qa (Qd rfl rfl (s_lens rfl Tryz.underlying9 rfl (Qd rfl rfl (WpL.nil (Wp.block ?_)))))))))
 refine Wp.loopD (σ := HpX) (fun x => x.k ≤ s.size ∧ hdJ (Xv a) (Xw b) (Xx d) x.h ∧ XE (Xv a) (Xw b) (Xx d) hd0 (QW s) 0 = XE (Xv a) (Xw b) (Xx d) x.h ((QW s).drop x.k) x.k) [5, 6, 8, 9, 10, 15, 16, 17, 18, 19, 20, 21, 22, 23, 24, 25, 26, 27, 28, 29, 30, 31, 32, 33, 34, 35, 36, 37] (fun x => [(15, .int .i64 (x.k : Int))]) (fun x => [hdR g (Xv a) (Xw b) (Xx d) x.h, QB gC [.int .i64 0, .int .i64 0, .int .i64 0, .int .i64 0] 98, QB gB [.int .i64 a, .int .i64 b, .int .i64 d] 24]) (fun x => s.size - x.k) ⟨0, hd0⟩ ?_ (by repeat (first | exact FrLe.nil | refine FrLe.cons rfl ?_)) ?_ ?_
 ·exact ⟨Nat.zero_le _, hdJ0 _ _ _, rfl⟩
 ·exact Take.ent' (by repeat' constructor)
 ·rintro ⟨k, h⟩ ⟨hk, hj, hrn⟩
  dsimp only at hk hj hrn ⊢
  refine Qb (Qa (Q6 rfl rfl rfl (WpL.nil (Qb (Qm rfl (fun h1 => ?_) (fun h1 => ?_))))))
  ·have hlt : k < s.size := by omega
   have hkb : k < (QW s).length := by rw [XB]; exact hlt
   have hdc : (QW s).drop k = (QW s)[k] :: (QW s).drop (k + 1) := List.drop_eq_getElem_cons hkb
   have hcb := bsOf_bd s _ (List.getElem_mem hkb)
   have hok := hdPut_ok (c := (QW s)[k]) (lim_o a b d) hj
   refine Wp.skip (Qb (Wp.block ?_))
   refine Qb (Qa (Qd rfl rfl (Qe rfl rfl (WpL.nil (Qb (Qa (Qd rfl rfl (Qd rfl rfl (Qd rfl rfl (s_ixs rfl Tryz.underlying9 rfl rfl (by omega) hlt ?_))))))))))
   rw [show (((s)[((k : Int)).toNat]'hlt).toNat : Int) = (QW s)[k] from (bsOf_at hlt).symm]
   refine Qg rfl rfl (by repeat' constructor) (hdPut_rep g (Xv a) (Xw b) (Xx d) h _ hcb.1 hcb.2 (lim_o a b d) hj) ?_
   rintro _ _ ⟨rfl, rfl⟩
   simp only [Qr]
   refine Xj rfl rfl rfl (WpL.nil (Qm rfl (fun h2 => ?_) (fun h2 => ?_)))
   ·have hpe : (XV (Xv a) (Xw b) (Xx d) (QW s)) = hdFin (XA (Xv a) (Xw b) (Xx d) h (QW s)[k], (k : Int) + 1) (QW s).length := by rw [hdP_fin, hrn, hdc, hdRun_fin _ _ _ h2]
    refine Qb (Qa (Qd rfl rfl (Qg rfl rfl (by repeat' constructor) (hdHead_alt g (Xv a) (Xw b) (Xx d) (XA (Xv a) (Xw b) (Xx d) h (QW s)[k])) ?_)))
    intro v0 m0 hN0
    rcases hN0 with ⟨hE, rfl, rfl⟩ | ⟨hE, rfl, rfl⟩
    ·simp only [Qr]
     have hbad : HdBad (XA (Xv a) (Xw b) (Xx d) h (QW s)[k]) := by
      rcases hok with q | q | q
      ·exact absurd q.1.1 h2
      ·exact q
      ·exact absurd q.2.1 hE
     have hpe2 : (XV (Xv a) (Xw b) (Xx d) (QW s)) = ((0, 0, 0, 0), (k : Int) + 1, (XA (Xv a) (Xw b) (Xx d) h (QW s)[k]).e) := by rw [hpe]; unfold hdFin; rw [if_neg (by rw [hbad.1]; decide), if_pos hbad.1]
     refine Qd rfl rfl (QC rfl rfl rfl (QC rfl rfl rfl (XK rfl ?_)))
     intro g3
     refine QY rfl rfl rfl (by rfl) rfl ?_
     refine Qe rfl rfl (WpL.nil (Qb (Qb (Qa ?_))))
     refine Qz (vs := [_, _, _, _]) rfl rfl rfl (by rfl) ?_
     refine XN rfl rfl ?_
     refine s_aeq [0, 0, 0, 0] [0, 0, 0, 0] rfl rfl rfl rfl rfl (WpL.nil (QN rfl rfl (Qb (Qa ?_))))
     refine Qz (vs := [_, _, _, _]) rfl rfl rfl (by rfl) ?_
     refine Qd rfl rfl ?_
     refine QY rfl rfl rfl (by rfl) rfl ?_
     refine Qe rfl rfl (Qe rfl rfl (WpL.nil (Qh ?_)))
     apply RetQ.mk
     ·exact (X2 rfl rfl (by rfl) rfl rfl)
     ·exact ⟨by rw [hpe2, if_neg hE], rfl⟩
     ·exact Ent.nil _
    ·simp only [Qr]
     have hfi : Zz (XA (Xv a) (Xw b) (Xx d) h (QW s)[k]) := by
      rcases hok with q | q | q
      ·exact absurd q.1.1 h2
      ·exact absurd hE (by have := q.2.1; omega)
      ·exact q
     have hpe2 : (XV (Xv a) (Xw b) (Xx d) (QW s)) = (((XA (Xv a) (Xw b) (Xx d) h (QW s)[k]).K, (XA (Xv a) (Xw b) (Xx d) h (QW s)[k]).W, (XA (Xv a) (Xw b) (Xx d) h (QW s)[k]).H, (XA (Xv a) (Xw b) (Xx d) h (QW s)[k]).M), (k : Int) + 1, 0) := by rw [hpe]; unfold hdFin; rw [if_pos hfi.1]
     have hK1 := hfi.2.2.1
     refine Qd rfl rfl (QC rfl rfl rfl (QC rfl rfl rfl (XK rfl ?_)))
     intro g4
     refine QY rfl rfl rfl (by rfl) rfl ?_
     refine Qe rfl rfl (WpL.nil (Qb (Qb (Qa ?_))))
     refine Qz (vs := [_, _, _, _]) rfl rfl rfl (by rfl) ?_
     refine XN rfl rfl ?_
     refine s_aeq [(XA (Xv a) (Xw b) (Xx d) h (QW s)[k]).K, (XA (Xv a) (Xw b) (Xx d) h (QW s)[k]).W, (XA (Xv a) (Xw b) (Xx d) h (QW s)[k]).H, (XA (Xv a) (Xw b) (Xx d) h (QW s)[k]).M] [0, 0, 0, 0] rfl rfl rfl rfl rfl (WpL.nil (QA rfl (fun q => by have := (List.cons.inj q).1; omega) ?_))
     refine Wp.skip (Qb (Qa ?_))
     refine Qz (vs := [_, _, _, _]) rfl rfl rfl (by rfl) ?_
     refine Qd rfl rfl (QE rfl rfl rfl (Qt (by omega) (by omega)) ?_)
     refine QY rfl rfl rfl (by rfl) rfl ?_
     refine Qe rfl rfl (Qe rfl rfl (WpL.nil (Qh ?_)))
     apply RetQ.mk
     ·exact (X2 rfl rfl (by rfl) rfl rfl)
     ·exact ⟨by rw [hpe2, if_pos rfl], rfl⟩
     ·exact Ent.nil _
   ·have hl0 := Classical.not_not.1 h2
    refine Wp.skip (Qa (QE rfl rfl rfl (Qt (by omega) (by omega)) ?_))
    refine Qd rfl rfl (WpL.nil (Qy ⟨k + 1, XA (Xv a) (Xw b) (Xx d) h (QW s)[k]⟩ ?_ ?_ (by ((repeat (first | exact Top.refl | refine Top.push rfl ?_)); done)) (by repeat (first | exact FrLe.nil | refine FrLe.cons rfl ?_)) ?_))
    ·refine ⟨by simp only; omega, ?_, ?_⟩
     ·rcases hok with q | q | q
      ·exact q
      ·exact absurd hl0 (by rw [q.1]; decide)
      ·exact absurd hl0 (by rw [q.1]; decide)
     ·rw [hrn, hdc, hdRun_one _ _ _ hl0]; rfl
    ·simp only; omega
    ·exact Ent.refl _
  ·obtain rfl : k = s.size := by omega
   rw [List.drop_of_length_le (by rw [XB]; exact Nat.le_refl _)] at hrn
   have hpe : (XV (Xv a) (Xw b) (Xx d) (QW s)) = ((0, 0, 0, 0), (s.size : Int), 6) := by rw [hdP_fin, hrn]; unfold hdFin XE; rw [hj.1.1, XB]; simp
   refine QL (Qb (Qa ?_))
   refine XN rfl rfl ?_
   refine QY rfl rfl rfl (by rfl) rfl ?_
   refine Qe rfl rfl (Qe rfl rfl (WpL.nil (Qh ?_)))
   apply RetQ.mk
   ·exact (X2 rfl rfl (by rfl) rfl rfl)
   ·exact ⟨by rw [hpe]; rfl, rfl⟩
   ·exact Ent.nil _

end Go.Proofs.YtggamdlpiejbiaaGreat
namespace Go.Proofs.YtggamdlpiejbiaaGreat
open Go.RowKit Go.Shelf
/-- The row of a text that became bytes. -/
def cvR (e g c : Nat) (xs : List Value) : HP where
  p w S := (∀ b, S b ↔ b = g) ∧ ∃ cur : Array Value, w.heap[g]? = some (.cells cur e (cur.size, cur.size + 1)) ∧ cur.size = c ∧ xs.length ≤ c ∧ cur.toList.take xs.length = xs
  loc := fun ⟨hs, cur, h, r⟩ _ hb => ⟨hs, cur, (hb g ((hs g).2 rfl)).trans h, r⟩
  lt := fun ⟨hs, cur, h, _⟩ b hb => by rw [(hs b).1 hb]; exact (Array.getElem?_eq_some_iff.1 h).1
theorem setCells_chg (b : Nat) : ∀ (vs : List Value) (o : Nat) (w : World), (w.setCells b o vs).os = w.os ∧ (w.setCells b o vs).tape = w.tape ∧ (w.setCells b o vs).output = w.output ∧ (w.setCells b o vs).heap.size = w.heap.size ∧ ∀ k, k ≠ b → (w.setCells b o vs).heap[k]? = w.heap[k]?
  | [], _, _ => ⟨rfl, rfl, rfl, rfl, fun _ _ => rfl⟩
  | v :: r, o, w => by
    obtain ⟨h1, h2, h3, h4, h5⟩ := setCells_chg b r (o + 1) (w.setCell ⟨b, o, none⟩ v)
    have e : ∀ k, k ≠ b → (w.setCell ⟨b, o, none⟩ v).heap[k]? = w.heap[k]? := fun k hk => by
      simp [World.setCell, Array.getElem?_modify, Ne.symm hk]
    refine ⟨h1.trans ?_, h2.trans ?_, h3.trans ?_, h4.trans ?_, fun k hk => (h5 k hk).trans (e k hk)⟩
    all_goals simp [World.setCell]
section
variable {P : Program} {n : Cx} {D : List Deferred} {ops : Array Oper} {rest : List Oper} {Q : Post} {fr : Fr} {l : List HP} {ty : Nat} {pos : String} {aft : Array Edge}
theorem out_bytesC {w : World} {U : Nat → Prop} (h : Sat w l U) (e : Nat) (s : ByteArray) : Out (cvR e w.heap.size (Lib.bytesCells w e s).size (Xn (QW s)) :: l) U w (Lib.bytesWorld w e s) := by
  have hb := bytes_below w e s
  have h2 : Sat (Lib.bytesWorld w e s) l (fun b => U b ∧ b < w.heap.size) := h.inside.keep hb.size fun b _ hlt => hb.block b hlt
  refine ⟨⟨fun b => b = w.heap.size, ⟨fun _ => Iff.rfl, _, Lib.bytesWorld_at_new w e s, rfl, ?_, ?_⟩, fun b hb => .inr (Nat.le_of_eq hb.symm), h2.mono fun b hb => ⟨.inl hb.1, fun e => ?_⟩⟩, .of_below hb⟩
  · rw [Q1, XB]; simp [Lib.bytesCells]
  · rw [Q1, XB]
    apply List.ext_getElem?
    intro j
    by_cases hj : j < s.size
    · rw [List.getElem?_take, if_pos hj, YQ _ (by rw [XB]; exact hj), bsOf_at hj]
      simp only [Lib.bytesCells, Array.toList_append, Array.toList_map]
      rw [List.getElem?_append_left (by simpa using hj), List.getElem?_map]
      have e1 : s.data.toList[j]? = some s[j] := by rw [List.getElem?_eq_getElem (by simpa using hj)]; rfl
      rw [e1]; rfl
    · rw [List.getElem?_take, if_neg hj, List.getElem?_eq_none (by rw [Q1, XB]; omega)]
  · rw [e] at hb; exact absurd hb.2 (Nat.lt_irrefl _)
theorem s_t2bc {d T1 T2 e : Nat} {x : Operand} {s : ByteArray} (hd : Nat.blt d n = true) (h1 : P.underlying T1 = some .string) (h2 : P.underlying T2 = some (.slice e)) (h3 : P.underlying e = some (.int .u8)) (hx : ev fr x = some (.string s))
    (k : ∀ g c, WpL P n D ops rest Q ((d, .slice (some ⟨g, 0, none⟩) (QW s).length c) :: fr) (cvR e g c (Xn (QW s)) :: l)) : WpL P n D ops (⟨some d, .convert T1 T2 x, ty, pos, aft, none⟩ :: rest) Q fr l :=
  Xu hd (σ := Nat × Nat) (fun q => .slice (some ⟨q.1, 0, none⟩) (QW s).length q.2) (fun q => cvR e q.1 q.2 (Xn (QW s)) :: l) (fun a w U hh hs => ⟨(w.heap.size, (Lib.bytesCells w e s).size), _, by
    have hg : (Lib.bytesCells w e s).size = grownCap w s.size 0 e := by simp [Lib.bytesCells]; have := grownCap_ge w s.size 0 e; omega
    rw [XB, hg]; simp [execOp, hh.ev hx, Lib.run_convert_string_bytes w T1 T2 e s h1 h2 h3], out_bytesC hs e s⟩) fun q => k q.1 q.2
theorem cvR_cells {w : World} {S : Nat → Prop} {e g c : Nat} {xs : List Value} (h : (cvR e g c xs).p w S) (j : Nat) (u : Value) (hu : xs[j]? = some u) : w.cell? ⟨g, j, none⟩ = some u := by
  obtain ⟨_, cur, hg, _, hl, ht⟩ := h
  rw [cell_of_row w g j cur e _ hg]
  rw [← ht, List.getElem?_take] at hu
  split at hu
  · simpa using hu
  · cases hu
/-- append(s, t...), s a text's bytes. -/
theorem s_appC {d t e by_ : Nat} {z : Value} {x y : Operand} {a2 : Option Addr} {g c m c2 m2 : Nat} {xs ys : List Value} {As F : List HP} (hd : Nat.blt d n = true) [ht : SlT P t e 1 by_ z] (hx : ev fr x = some (.slice (some ⟨g, 0, none⟩) m c)) (hy : ev fr y = some (.slice a2 m2 c2))
    (htk : Take l [cvR e g c xs] F) (hA : RdsL As a2 ys) (he : Ent F As) (hlx : xs.length = m) (hl : ys.length = m2) (hz : z.cells.size = 1) (h1 : ∀ u ∈ ys, u.oneCell' = true) (hb : (m + m2) * by_ ≤ 140737488355328) (hm : m + m2 ≤ 140737488355328)
    (k : ∀ g' c', WpL P n D ops rest Q ((d, .slice (some ⟨g', 0, none⟩) (m + m2) c') :: fr) (rdo g' (xs ++ ys) :: F)) : WpL P n D ops (⟨some d, .call ⟨.builtin .append, #[x, y], #[t, t]⟩, ty, pos, aft, none⟩ :: rest) Q fr l := by
  refine Xu (σ := Nat × Nat) hd (fun p => .slice (some ⟨p.1, 0, none⟩) (m + m2) p.2) (fun p => rdo p.1 (xs ++ ys) :: F) (fun A w U hh hs' => ?_) (fun p => k p.1 p.2)
  have h2 := htk.ent w U hs'
  obtain ⟨S, hp, hSU, hF⟩ := id h2
  obtain ⟨hS, cur, hg, hc, hlc, htake⟩ := id hp
  obtain ⟨i0, hi, hz0, hz1, hz2⟩ := info_parts ht.hi
  have hRA := hA w _ (he w _ hF)
  have hgl : g < w.heap.size := (Array.getElem?_eq_some_iff.1 hg).1
  cases a2 with
  | none =>
    have hy0 : ys = [] := by
      cases ys with
      | nil => rfl
      | cons q qs => exact absurd (hRA.1 (by simp)) (by simp)
    subst hy0
    have hm0 : m2 = 0 := hl.symm
    subst hm0
    refine ⟨(g, c), w, ?_, ⟨⟨S, ⟨hS, hgl, fun j u hu => cvR_cells hp j u (by simpa using hu)⟩, fun b hb => .inl (hSU b hb), hF.mono fun b hb => ⟨.inl hb.1, hb.2⟩⟩, .refl _ _⟩⟩
    have hle : m ≤ c := by omega
    simp [execOp, resolve, invoke, builtin, hh.ev hx, hh.ev hy, Builtin.append_, run_underlying ht.hu, sizeOf, typeInfo, hi, Builtin.lenOf, hle, Builtin.firstCells, storeCells]
  | some ad =>
    have hnew : ∀ j u, ys[j]? = some u → w.cell? (ad.add j) = some u := fun j u hu => hRA.2 ad rfl j u hu
    by_cases hroom : m + m2 ≤ c
    · have hcell : ∀ j, j < ys.length → (w.cell? ⟨g, 0 + m * i0.size + j, none⟩).isSome = true := fun j hj => by
        rw [cell_of_row w g _ cur e _ hg, hz1]
        simp; omega
      have hfr : ∀ j, j < ys.length → w.frozen? ⟨g, 0 + m * i0.size + j, none⟩ = false := fun j hj => by
        unfold World.frozen?
        simp only [hg, hz1]
        simp; omega
      have hr := run_append_room_cells (P := P) w t ty e i0 ht.hu hi g 0 m c ad m2 c2 ys (by rw [hz1, hl]; omega) hnew h1 hroom hcell hfr
      have hch := setCells_chg g ys (0 + m * i0.size) w
      have hm1 : 0 + m * i0.size = m := by rw [hz1]; omega
      rw [hm1] at hr hch hcell
      refine ⟨(g, c), w.setCells g m ys, by simp [execOp, resolve, invoke, builtin, hh.ev hx, hh.ev hy, hr], ⟨S, ⟨hS, by rw [hch.2.2.2.1]; exact hgl, fun j u hu => ?_⟩, fun b hb => .inl (hSU b hb), ?_⟩, ⟨hch.1, hch.2.1, hch.2.2.1, by rw [hch.2.2.2.1]; exact Nat.le_refl _, fun b _ hnb => hch.2.2.2.2 b fun e => hnb (hSU b ((hS b).2 e))⟩⟩
      · by_cases hj : j < xs.length
        · rw [World.cell?_setCells_out g ys m w ⟨g, j, none⟩ (fun _ _ => .inl (by simp only; omega))]
          rw [List.getElem?_append_left hj] at hu
          exact cvR_cells hp j u hu
        · rw [List.getElem?_append_right (by omega)] at hu
          obtain ⟨hj2, hu2⟩ := List.getElem?_eq_some_iff.1 hu
          have := World.cell?_setCells_in g ys m w hcell (j - xs.length) hj2
          rw [show m + (j - xs.length) = j by omega, hu2] at this
          exact this
      · have hk : Sat (w.setCells g m ys) F (fun b => (U b ∧ ¬ S b) ∧ b < w.heap.size) := hF.inside.keep (by rw [hch.2.2.2.1]; exact Nat.le_refl _) fun b hb _ => hch.2.2.2.2 b fun e => hb.1.2 ((hS b).2 e)
        exact hk.mono fun b hb => ⟨.inl hb.1.1, hb.1.2⟩
    · obtain ⟨v', w', hr, hown, hgrown⟩ := run_append_arg_grows (P := P) w t ty e i0 z 1 by_ ht.hu hi hz0 hz1 hz2 hz (by decide) ⟨g, 0, none⟩ m c xs (by omega) (fun j u hu => by rw [Zj, Nat.zero_add]; exact cvR_cells hp j u hu) ad m2 c2 ys (by omega) hnew (by omega) (by unfold maxLen; omega) hb
      rcases hown.2 with ⟨_, h0⟩ | ⟨g', cap, cur', rfl, hg0, hg', hcap, hmx, hcs, htk'⟩
      · omega
      · have hblk : ∀ b, b < w.heap.size → w'.heap[b]? = w.heap[b]? := fun b hb => hgrown.block b hb (by simp)
        refine ⟨(g', cap), w', by simp [execOp, resolve, invoke, builtin, hh.ev hx, hh.ev hy, hr], ⟨fun b => b = g', ⟨fun _ => Iff.rfl, (Array.getElem?_eq_some_iff.1 hg').1, fun j u hu => ?_⟩, fun b hb => .inr (by rw [hb]; exact hg0), ?_⟩, ⟨hgrown.os, hgrown.tape, hgrown.output, hgrown.size, fun b hb _ => hblk b hb⟩⟩
        · rw [cell_of_row w' g' j cur' e _ hg']
          rw [← htk', List.getElem?_take] at hu
          split at hu
          · simpa using hu
          · cases hu
        · have hk : Sat w' F (fun b => (U b ∧ ¬ S b) ∧ b < w.heap.size) := hF.inside.keep hgrown.size fun b _ hlt => hblk b hlt
          exact hk.mono fun b hb => ⟨.inl hb.1.1, fun e => by rw [e] at hb; exact absurd hb.2 (Nat.not_lt.2 hg0)⟩
/-- []byte(b) of a row of bytes: the row itself, marked. -/
theorem s_b2b {d T e g m : Nat} {x : Operand} {cs : List Value} {F : List HP} (hd : Nat.blt d n = true) (h1 : P.underlying T = some (.slice e)) (h2 : P.underlying e = some (.int .u8)) (hx : ev fr x = some (.slice (some ⟨g, 0, none⟩) m m)) (htk : Take l [QB g cs e] F)
    (k : WpL P n D ops rest Q ((d, .slice (some ⟨g, 0, none⟩) m m) :: fr) (cvR e g cs.length cs :: F)) : WpL P n D ops (⟨some d, .convert T T x, ty, pos, aft, none⟩ :: rest) Q fr l := by
  refine Xu (σ := Unit) hd (fun _ => .slice (some ⟨g, 0, none⟩) m m) (fun _ => cvR e g cs.length cs :: F) (fun A w U hh hs' => ?_) (fun _ => k)
  have h3 := htk.ent w U hs'
  obtain ⟨S, ⟨hS, hg⟩, hSU, hF⟩ := h3
  have hsh : w.shape? g = some (e, cs.length) := by simp [World.shape?, hg]
  have hat : (w.freeze ⟨g, cs.length, none⟩ 1).heap[g]? = some (.cells cs.toArray e (cs.length, cs.length + 1)) := by
    have hlt := (Array.getElem?_eq_some_iff.1 hg).1
    simp [World.freeze, Array.getElem?_modify, hg]
  have hot : ∀ b, b ≠ g → (w.freeze ⟨g, cs.length, none⟩ 1).heap[b]? = w.heap[b]? := fun b hb => by
    simp [World.freeze, Array.getElem?_modify, Ne.symm hb]
  have hsz : (w.freeze ⟨g, cs.length, none⟩ 1).heap.size = w.heap.size := by simp [World.freeze]
  refine ⟨(), w.freeze ⟨g, cs.length, none⟩ 1, ?_, ⟨S, ⟨hS, cs.toArray, by simpa using hat, by simp, Nat.le_refl _, by simp⟩, fun b hb => .inl (hSU b hb), ?_⟩, ⟨by simp [World.freeze], by simp [World.freeze], by simp [World.freeze], by rw [hsz]; exact Nat.le_refl _, fun b _ hnb => hot b fun q => hnb (hSU b ((hS b).2 q))⟩⟩
  · simp [execOp, hh.ev hx, convert, run_underlying h1, run_underlying h2, markStringish, hsh]
  · have hk : Sat (w.freeze ⟨g, cs.length, none⟩ 1) F (fun b => (U b ∧ ¬ S b) ∧ b < w.heap.size) := hF.inside.keep (by rw [hsz]; exact Nat.le_refl _) fun b hb _ => hot b fun q => hb.1.2 ((hS b).2 q)
    exact hk.mono fun b hb => ⟨.inl hb.1.1, hb.1.2⟩
theorem RdsL.cvR {e g c : Nat} {xs : List Value} : RdsL [Go.Proofs.YtggamdlpiejbiaaGreat.cvR e g c xs] (some ⟨g, 0, none⟩) xs := by
  intro w U ⟨S, hp, _⟩
  refine ⟨fun _ => rfl, fun ad had j u hu => ?_⟩
  injection had with had
  subst had
  rw [Zj, Nat.zero_add]
  exact cvR_cells hp j u hu
end
end Go.Proofs.YtggamdlpiejbiaaGreat
namespace Go.Proofs.YtggamdlpiejbiaaGreat
open Go.RowKit Go.Shelf


theorem tk_may {C M W H k : Int} {px : List Int} (h : k ∈ Xh C M ∧ X7 C M W H px) : X6 k W H M ∧ (∀ p ∈ px, X1 p (QZ k) M) ∧ (px.length : Int) = W * H ∧ px.length ≤ 16777216 := by
  obtain ⟨hf, hk6, hc, h1⟩ := kinds_mem h.1
  obtain ⟨⟨hw, hh, hs⟩, hl, hp⟩ := h.2
  have hm := hf.2
  exact ⟨⟨hk6, hw, hh, hm, h1⟩, fun p hpp => by rw [hc]; exact hp p hpp, hl, by omega⟩
theorem iHead_alt (As : List HP) (C M W H : Int) (a : Option Addr) (c : Nat) (px : List Int) (hA : RdsL As a (Q5 px)) (hb : ∀ p ∈ px, 0 ≤ p ∧ p < 18446744073709551616) (hl : px.length ≤ 9223372036854775807) (k : Int) : Fn Tryz.prog 49 #[.agg #[.int .i64 C, .int .i64 M, .int .i64 W, .int .i64 H, .slice a px.length c], .int .i64 k] As (fun v l => ((k ∈ Xh C M ∧ X7 C M W H px) ∧ v = .tuple #[.agg #[.int .i64 k, .int .i64 W, .int .i64 H, .int .i64 M], .int .i64 0] ∧ l = As) ∨ (¬ (k ∈ Xh C M ∧ X7 C M W H px) ∧ v = .tuple #[.agg #[.int .i64 0, .int .i64 0, .int .i64 0, .int .i64 0], .int .i64 1] ∧ l = As)) := by
  refine (iHead_spec As C M W H a c px hA hb hl k).mono ?_
  rintro v l ⟨⟨h, rfl⟩ | ⟨h, rfl⟩, rfl⟩
  · exact ⟨_, .inl ⟨h, rfl, rfl⟩, Ent.refl _⟩
  · exact ⟨_, .inr ⟨h, rfl, rfl⟩, Ent.refl _⟩

theorem iWrP_spec (A0 : HP) (gI gH : Nat) (C M k : Int) (Wn Hn : Nat) (a : Option Addr) (c : Nat) (px : List Int) (hA : RdsL [A0] a (Q5 px)) (hb : ∀ p ∈ px, 0 ≤ p ∧ p < 18446744073709551616) (hcap : px.length ≤ c) (hT : k ∈ Xh C M ∧ X7 C M (Wn : Int) (Hn : Int) px) (hk : k < 4) : Fn Tryz.prog 88 #[.pointer (some ⟨gI, 0, none⟩), .pointer (some ⟨gH, 0, none⟩)] [QB gI [.int .i64 C, .int .i64 M, .int .i64 (Wn : Int), .int .i64 (Hn : Int), .slice a px.length c] 79, QB gH [.int .i64 k, .int .i64 (Wn : Int), .int .i64 (Hn : Int), .int .i64 M] 98, A0] (fun v l => ∃ gB cB, v = .slice (some ⟨gB, 0, none⟩) (wrL k (Wn : Int) 0 px).length cB ∧ l = [rdo gB (Xn (wrL k (Wn : Int) 0 px)), QB gI [.int .i64 C, .int .i64 M, .int .i64 (Wn : Int), .int .i64 (Hn : Int), .slice a px.length c] 79, QB gH [.int .i64 k, .int .i64 (Wn : Int), .int .i64 (Hn : Int), .int .i64 M] 98, A0]) := by
 obtain ⟨hMay, hfit, hpl, hp16⟩ := tk_may hT
 have hM2 := hMay
 unfold X6 at hM2
 refine Qk (vs := [.pointer (some ⟨gI, 0, none⟩), .pointer (some ⟨gH, 0, none⟩)]) Tryz.func88 rfl Tryz.ntmps88 rfl ?_
 refine Qb (Qa (Qe rfl rfl (WpL.nil (Qb (Qa (Qj (o2 := 2) rfl rfl rfl (Qj (o2 := 4) rfl rfl rfl (Qo rfl rfl (by rfl) ?_))))))))
 refine Qz (vs := [_, _, _, _]) rfl rfl rfl (by rfl) ?_
 refine Qg rfl rfl (by repeat' constructor) (Write_ok A0 a c px hA hb (by omega) hcap k M Wn Hn ⟨hMay, by omega⟩) ?_
 rintro _ _ ⟨s8, e8, rfl, hs8, rfl⟩
 simp only [Qr]
 obtain ⟨_, rfl, hs8, hz8⟩ : WrP k (Wn : Int) (Hn : Int) M px ∧ e8 = 0 ∧ QW s8 = (wrL k (Wn : Int) 0 px) ∧ s8.size ≤ px.length * 20 := by
  rcases hs8 with q | q
  ·exact q
  ·exact absurd (⟨⟨hMay, by omega⟩, hpl, hfit⟩ : WrP k (Wn : Int) (Hn : Int) M px) q.1
 refine Qd rfl rfl (QC rfl rfl rfl (QC rfl rfl rfl (Qe rfl rfl (Qe rfl rfl (WpL.nil (Qb (Qa (Qd rfl rfl (s_t2b rfl Tryz.underlying9 Tryz.underlying22 Tryz.underlying5 rfl ?_)))))))))
 intro gB cB
 rw [hs8]
 refine Qe rfl rfl (WpL.nil (Qh ?_))
 apply RetQ.mk
 ·exact (Res.one rfl rfl)
 ·exact ⟨gB, cB, rfl, rfl⟩
 ·exact Take.ent' (by repeat' constructor)

theorem iWrR_spec (A0 : HP) (gI gH : Nat) (C M k : Int) (Wn Hn : Nat) (a : Option Addr) (c : Nat) (px : List Int) (hA : RdsL [A0] a (Q5 px)) (hb : ∀ p ∈ px, 0 ≤ p ∧ p < 18446744073709551616) (hcap : px.length ≤ c) (hT : k ∈ Xh C M ∧ X7 C M (Wn : Int) (Hn : Int) px) (hk : 4 ≤ k) : Fn Tryz.prog 90 #[.pointer (some ⟨gI, 0, none⟩), .pointer (some ⟨gH, 0, none⟩)] [QB gI [.int .i64 C, .int .i64 M, .int .i64 (Wn : Int), .int .i64 (Hn : Int), .slice a px.length c] 79, QB gH [.int .i64 k, .int .i64 (Wn : Int), .int .i64 (Hn : Int), .int .i64 M] 98, A0] (fun v l => ∃ a9 c9, v = .slice a9 (Xk k Wn (Qi M) px Hn).length c9 ∧ (Xk k Wn (Qi M) px Hn).length ≤ 2000000000 ∧ l = [QG 5 1 a9 c9 (Xk k Wn (Qi M) px Hn).length (Xn (Xk k Wn (Qi M) px Hn)), QB gI [.int .i64 C, .int .i64 M, .int .i64 (Wn : Int), .int .i64 (Hn : Int), .slice a px.length c] 79, QB gH [.int .i64 k, .int .i64 (Wn : Int), .int .i64 (Hn : Int), .int .i64 M] 98, A0]) := by
 obtain ⟨hMay, hfit, hpl, hp16⟩ := tk_may hT
 have hM2 := hMay
 unfold X6 at hM2
 have hpn : px.length = Wn * Hn := by exact_mod_cast hpl
 have hwl := Ym (K := k) (w := Qi M) (Q4 M) hpn (fun p hp => by have := can_fit (hfit p hp); omega) Hn (Nat.le_refl _)
 have hsb := XZ (K := k) (W := Wn) (Q4 M) (by omega) (by omega)
 have hwl2 : (Xk k Wn (Qi M) px Hn).length ≤ 65536 * 24576 := by rw [hwl]; (rw [Nat.mul_comm]; exact Nat.mul_le_mul (by omega) hsb.2)
 refine Qk (vs := [.pointer (some ⟨gI, 0, none⟩), .pointer (some ⟨gH, 0, none⟩)]) Tryz.func90 rfl Tryz.ntmps90 rfl ?_
 refine Qb (Qa (Qe rfl rfl (WpL.nil (Qb (Qa (Qj (o2 := 2) rfl rfl rfl (Qj (o2 := 4) rfl rfl rfl (Qo rfl rfl (by rfl) ?_))))))))
 refine Qz (vs := [_, _, _, _]) rfl rfl rfl (by rfl) ?_
 refine Qg rfl rfl (by repeat' constructor) (RawWrite_spec A0 a c px hA hb hcap k Wn Hn M ⟨hMay, by omega⟩ hpn hfit) ?_
 rintro _ _ ⟨a9, c9, rfl, hc9, rfl⟩
 simp only [Qr]
 refine Qd rfl rfl (QC rfl rfl rfl (QC rfl rfl rfl (Qe rfl rfl (Qe rfl rfl (WpL.nil (Qb (Qa (Qd rfl rfl (Qe rfl rfl (WpL.nil (Qh ?_)))))))))))
 apply RetQ.mk
 ·exact (Res.one rfl rfl)
 ·exact ⟨a9, c9, rfl, by omega, rfl⟩
 ·exact Take.ent' (by repeat' constructor)

end Go.Proofs.YtggamdlpiejbiaaGreat
namespace Go.Proofs.YtggamdlpiejbiaaGreat
open Go.RowKit Go.Shelf


theorem hdW_lenH {K W H M : Int} (h : X6 K W H M) : (hdW K W H M).length ≤ 400000 := by
  unfold X6 at h
  have h1 := digs_len K.toNat
  have h2 := digs_len W.toNat
  have h3 := digs_len H.toNat
  have h4 := digs_len M.toNat
  unfold hdW
  simp only [List.length_append, List.length_cons, List.length_nil]
  split <;> simp only [List.length_append, List.length_cons, List.length_nil] <;> omega
theorem wrL_lenB {C M W H k : Int} {px : List Int} (h : k ∈ Xh C M ∧ X7 C M W H px) (_hk : k < 4) : (wrL k W 0 px).length ≤ 1000000000 := by
  have h1 := (tk_may h).2.2.2
  have h2 := wrL_len (K := k) (W := W) px 0
  omega

set_option maxHeartbeats 1000000 in
theorem iWriteN_spec (A0 : HP) (C M : Int) (Wn Hn : Nat) (a : Option Addr) (c : Nat) (px : List Int) (hA : RdsL [A0] a (Q5 px)) (hb : ∀ p ∈ px, 0 ≤ p ∧ p < 18446744073709551616) (hcap : px.length ≤ c) (hpl : px.length ≤ 9223372036854775807) (k : Int) : Fn Tryz.prog 48 #[.agg #[.int .i64 C, .int .i64 M, .int .i64 (Wn : Int), .int .i64 (Hn : Int), .slice a px.length c], .int .i64 k] [A0] (fun v l => (k ∈ Xh C M ∧ X7 C M (Wn : Int) (Hn : Int) px ∧ ∃ g c2, v = .tuple #[.slice (some ⟨g, 0, none⟩) (wrI ⟨C, M, (Wn : Int), (Hn : Int), px⟩ k).length c2, .int .i64 0] ∧ l = [rdo g (Xn (wrI ⟨C, M, (Wn : Int), (Hn : Int), px⟩ k)), A0]) ∨ (¬ (k ∈ Xh C M ∧ X7 C M (Wn : Int) (Hn : Int) px) ∧ v = .tuple #[.slice none 0 0, .int .i64 1] ∧ l = [A0])) := by
 refine Qk (vs := [.agg #[.int .i64 C, .int .i64 M, .int .i64 (Wn : Int), .int .i64 (Hn : Int), .slice a px.length c], .int .i64 k]) Tryz.func48 rfl Tryz.ntmps48 rfl (Qb (Qa (QP rfl rfl rfl ?_)))
 intro gI
 refine Qe rfl rfl (Qe rfl rfl (WpL.nil (Qb (Qa ?_))))
 refine Qz (vs := [_, _, _, _, _]) rfl rfl rfl (by rfl) ?_
 refine Qd rfl rfl (Qg rfl rfl (by repeat' constructor) (iHead_alt [A0] C M (Wn : Int) (Hn : Int) a c px hA hb hpl k) ?_)
 intro v0 m0 hN0
 rcases hN0 with ⟨hT, rfl, rfl⟩ | ⟨hT, rfl, rfl⟩
 ·simp only [Qr]
  obtain ⟨hMay, hfit, hpl2, hp16⟩ := tk_may hT
  have hM2 := hMay
  unfold X6 at hM2
  refine Qd rfl rfl (QC rfl rfl rfl (QC rfl rfl rfl (XK rfl ?_)))
  intro gH
  refine QY rfl rfl rfl (by rfl) rfl ?_
  refine Qe rfl rfl (WpL.nil (Qb (Qb (Qa (Qd rfl rfl (Xj rfl rfl rfl (WpL.nil (QA rfl (fun h => h rfl) ?_))))))))
  refine Wp.skip (Qb (Qa ?_))
  refine Qz (vs := [_, _, _, _]) rfl rfl rfl (by rfl) ?_
  refine Qg rfl rfl (by repeat' constructor) (hWrite_spec _ _ _ _ hMay) ?_
  rintro _ _ ⟨s6, hs6, rfl, rfl⟩
  simp only [Qr]
  have hz6 := hdW_lenH hMay
  have hs6z : s6.size ≤ 400000 := by rw [← XB, hs6]; exact hz6
  refine Qd rfl rfl (QC rfl rfl rfl (QC rfl rfl rfl (Qe rfl rfl (Qe rfl rfl (WpL.nil (Qb (Qa (s_mkf rfl (fun a hh => XO hh _ _ rfl) ?_))))))))
  refine Qe rfl rfl (WpL.nil (Qb (Qb (Qa ?_))))
  refine Qz (vs := [_, _, _, _]) rfl rfl rfl (by rfl) ?_
  refine Qg rfl rfl (by repeat' constructor) (Y0 _ _ _ _) ?_
  rintro _ _ ⟨rfl, rfl⟩
  simp only [Qr]
  refine WpL.nil (Qm rfl (fun h1 => ?_) (fun h1 => ?_))
  ·refine Qa (s_mkf rfl (fun a hh => XO hh _ _ rfl) ?_)
   refine Qe rfl rfl (WpL.nil (Qb (Qa (Qd rfl rfl (s_t2bc rfl Tryz.underlying9 Tryz.underlying22 Tryz.underlying5 rfl ?_)))))
   intro g30 c30
   rw [hs6]
   refine Qd rfl rfl (XU (u := []) (c := [.pointer (some ⟨gI, 0, none⟩), .pointer (some ⟨gH, 0, none⟩)]) rfl rfl rfl rfl (by repeat' constructor) (iWrR_spec A0 gI gH C M k Wn Hn a c px hA hb hcap hT (by omega)) ?_)
   rintro _ _ ⟨a9, c9, rfl, hz9, rfl⟩
   simp only [Qr]
   (refine s_appC rfl rfl rfl (by repeat' constructor) (QI (T := 5) (s := 1) (c := c9) (m := (Xk k Wn (Qi M) px Hn).length)) (by exact Take.ent' (by repeat' constructor)) (Q1 _) (Q1 _) (by rfl) (u8s_one _) (by omega) (by omega) ?_; intro g33 c33; rw [u8s_app, ← List.length_append, show hdW k (Wn : Int) (Hn : Int) M ++ (Xk k Wn (Qi M) px Hn) = (wrI ⟨C, M, (Wn : Int), (Hn : Int), px⟩ k) from (by unfold wrI; rw [if_neg (by omega)]; rfl)])
   refine Qe rfl rfl (Qe rfl rfl (WpL.nil (Qh ?_)))
   apply RetQ.mk
   ·exact (QF rfl rfl rfl)
   ·exact .inl ⟨hT.1, hT.2, g33, c33, rfl, rfl⟩
   ·exact Take.ent' (by repeat' constructor)
  ·refine Wp.skip (Qb (Qa (Qd rfl rfl (s_t2bc rfl Tryz.underlying9 Tryz.underlying22 Tryz.underlying5 rfl ?_))))
   intro g30 c30
   rw [hs6]
   refine Qd rfl rfl (XU (u := []) (c := [.pointer (some ⟨gI, 0, none⟩), .pointer (some ⟨gH, 0, none⟩)]) rfl rfl rfl rfl (by repeat' constructor) (iWrP_spec A0 gI gH C M k Wn Hn a c px hA hb hcap hT (by omega)) ?_)
   rintro _ _ ⟨gB, cB, rfl, rfl⟩
   simp only [Qr]
   (have hz8 := wrL_lenB hT (by omega); refine s_appC rfl rfl rfl (by repeat' constructor) (RdsL.rdo (g := gB) (xs := Xn (wrL k (Wn : Int) 0 px))) (by exact Take.ent' (by repeat' constructor)) (Q1 _) (Q1 _) (by rfl) (u8s_one _) (by omega) (by omega) ?_; intro g33 c33; rw [u8s_app, ← List.length_append, show hdW k (Wn : Int) (Hn : Int) M ++ (wrL k (Wn : Int) 0 px) = (wrI ⟨C, M, (Wn : Int), (Hn : Int), px⟩ k) from (by unfold wrI; rw [if_pos (by omega)])])
   refine Qe rfl rfl (Qe rfl rfl (WpL.nil (Qh ?_)))
   apply RetQ.mk
   ·exact (QF rfl rfl rfl)
   ·exact .inl ⟨hT.1, hT.2, g33, c33, rfl, rfl⟩
   ·exact Take.ent' (by repeat' constructor)
 ·simp only [Qr]
  refine Qd rfl rfl (QC rfl rfl rfl (QC rfl rfl rfl (XK rfl ?_)))
  intro gH
  refine QY rfl rfl rfl (by rfl) rfl ?_
  refine Qe rfl rfl (WpL.nil (Qb (Qb (Qa (Qd rfl rfl (Xj rfl rfl rfl (WpL.nil (QN rfl (by decide) (Qb (Qa (Qd rfl rfl (Qe rfl rfl ?_))))))))))))
  refine Qe rfl rfl (WpL.nil (Qh ?_))
  apply RetQ.mk
  ·exact (QF rfl rfl rfl)
  ·exact .inr ⟨hT, rfl, rfl⟩
  ·exact Take.ent' (by repeat' constructor)

end Go.Proofs.YtggamdlpiejbiaaGreat
namespace Go.Proofs.YtggamdlpiejbiaaGreat
open Go.RowKit Go.Shelf


theorem hdRun_inv (l0 l1 l2 : Int) (hL : LimO l0 l1 l2) : ∀ (bs : List Int) (h : HS) (n : Int), hdJ l0 l1 l2 h → ((XE l0 l1 l2 h bs n).1.last = 1 → Zz (XE l0 l1 l2 h bs n).1) ∧ ((XE l0 l1 l2 h bs n).1.last = 2 → HdBad (XE l0 l1 l2 h bs n).1) ∧ ((XE l0 l1 l2 h bs n).1.last = 0 ∨ (XE l0 l1 l2 h bs n).1.last = 1 ∨ (XE l0 l1 l2 h bs n).1.last = 2) ∧ n ≤ (XE l0 l1 l2 h bs n).2 ∧ (XE l0 l1 l2 h bs n).2 ≤ n + bs.length
  | [], h, n, hj => by
    have := hj.1.1
    refine ⟨fun q => ?_, fun q => ?_, .inl this, ?_, ?_⟩
    · exact absurd (this.symm.trans q) (by decide)
    · exact absurd (this.symm.trans q) (by decide)
    · simp [XE]
    · simp [XE]
  | c :: bs, h, n, hj => by
    rcases hdPut_ok (c := c) hL hj with q | q | q
    · have h0 := q.1.1
      rw [hdRun_one _ _ _ h0]
      have ih := hdRun_inv l0 l1 l2 hL bs _ (n + 1) q
      refine ⟨ih.1, ih.2.1, ih.2.2.1, by omega, by rw [List.length_cons]; push_cast; omega⟩
    · have h0 := q.1
      rw [hdRun_fin _ _ _ (by rw [h0]; decide)]
      exact ⟨fun z => absurd (h0.symm.trans z) (by decide), fun _ => q, .inr (.inr h0), by simp only; omega, by simp only [List.length_cons]; push_cast; omega⟩
    · have h0 := q.1
      rw [hdRun_fin _ _ _ (by rw [h0]; decide)]
      exact ⟨fun _ => q, fun z => absurd (h0.symm.trans z) (by decide), .inr (.inl h0), by simp only; omega, by simp only [List.length_cons]; push_cast; omega⟩
theorem hdP_ok (l0 l1 l2 : Int) (hL : LimO l0 l1 l2) (bs : List Int) : ((XV l0 l1 l2 bs).2.2 = 0 → X6 (XV l0 l1 l2 bs).1.1 (XV l0 l1 l2 bs).1.2.1 (XV l0 l1 l2 bs).1.2.2.1 (XV l0 l1 l2 bs).1.2.2.2) ∧ 0 ≤ (XV l0 l1 l2 bs).2.1 ∧ (XV l0 l1 l2 bs).2.1 ≤ bs.length ∧ ((XV l0 l1 l2 bs).2.2 ≠ 0 → (XV l0 l1 l2 bs).1 = (0, 0, 0, 0)) := by
  have q := hdRun_inv l0 l1 l2 hL bs hd0 0 (hdJ0 l0 l1 l2)
  rw [hdP_fin]
  unfold hdFin
  by_cases h1 : (XE l0 l1 l2 hd0 bs 0).1.last = 1
  · rw [if_pos h1]
    exact ⟨fun _ => (q.1 h1).2.2, by simp only; omega, by simp only; omega, fun z => absurd rfl z⟩
  · rw [if_neg h1]
    by_cases h2 : (XE l0 l1 l2 hd0 bs 0).1.last = 2
    · rw [if_pos h2]
      have hb := q.2.1 h2
      unfold HdBad at hb
      exact ⟨fun z => by simp only at z; omega, by simp only; omega, by simp only; omega, fun _ => rfl⟩
    · rw [if_neg h2]
      exact ⟨fun z => by simp at z, by simp, by simp, fun _ => rfl⟩

theorem SizeN_spec (K W H M : Int) (hK : 1 ≤ K ∧ K < 4) : Fn Tryz.prog 75 #[.agg #[.int .i64 K, .int .i64 W, .int .i64 H, .int .i64 M]] [] (fun v l => v = .int .i64 0 ∧ l = []) := by
 refine Qk (vs := [.agg #[.int .i64 K, .int .i64 W, .int .i64 H, .int .i64 M]]) Tryz.func75 rfl Tryz.ntmps75 rfl (Qb (Qa (QP rfl rfl rfl ?_)))
 intro g1
 refine Qe rfl rfl (WpL.nil (Qb (Wp.block ?_)))
 refine Qb (Qa ?_)
 refine Qz (vs := [_, _, _, _]) rfl rfl rfl (by rfl) ?_
 refine Qg rfl rfl (by repeat' constructor) (Y0 _ _ _ _) ?_
 rintro _ _ ⟨rfl, rfl⟩
 simp only [Qr]
 refine XY rfl rfl (Qe rfl rfl (WpL.nil (QN rfl (fun q => by omega) ?_)))
 refine Qb (Qa (Qe rfl rfl (WpL.nil (Qh ?_))))
 apply RetQ.mk
 ·exact (Res.one rfl rfl)
 ·exact ⟨rfl, rfl⟩
 ·exact Ent.nil _


theorem SizeA_spec (K : Int) (W H : Nat) (M : Int) (hM : X6 K (W : Int) (H : Int) M) : Fn Tryz.prog 75 #[.agg #[.int .i64 K, .int .i64 (W : Int), .int .i64 (H : Int), .int .i64 M]] [] (fun v l => v = .int .i64 (if 4 ≤ K then ((QD K W (Qi M) * H : Nat) : Int) else 0) ∧ l = []) := by
  have hM2 := hM
  unfold X6 at hM2
  by_cases h : 4 ≤ K
  · rw [if_pos h]
    exact Size_spec K W H M ⟨hM, by omega⟩
  · rw [if_neg h]
    exact SizeN_spec K W H M (by omega)
theorem readL_i {K W H M : Int} : ∀ (bs : List Int) (i : Int) (s : RS) (acc : List Int), 0 ≤ i → 0 ≤ (readL K W H M bs i s acc).2.1 ∧ (readL K W H M bs i s acc).2.1 ≤ i + bs.length
  | [], i, s, acc, h => by
    unfold readL
    split
    · refine ⟨Int.le_refl _, ?_⟩; show (0 : Int) ≤ i + ((0 : Nat) : Int); omega
    · refine ⟨h, ?_⟩; show i ≤ i + ((0 : Nat) : Int); omega
  | c :: bs, i, s, acc, h => by
    unfold readL
    split
    · exact ⟨by show (0 : Int) ≤ i + 1; omega, by show i + 1 ≤ i + ((bs.length + 1 : Nat) : Int); omega⟩
    · split
      · exact ⟨Int.le_refl _, by show (0 : Int) ≤ i + ((bs.length + 1 : Nat) : Int); omega⟩
      · have := readL_i (K := K) (W := W) (H := H) (M := M) bs (i + 1) (YO K W H M s c).1 (acc ++ (YO K W H M s c).2) (by omega)
        simp only [List.length_cons]; push_cast; omega
theorem readS_i {K W H M : Int} (bs : List Int) : 0 ≤ (readS K W H M bs).2.1 ∧ (readS K W H M bs).2.1 ≤ bs.length := by
  unfold readS
  split
  · have := readL_i (K := K) (W := W) (H := H) (M := M) bs 0 s0R [] (by omega); omega
  · simp
/-- The image that bytes begin with, how many bytes it has, the error. -/
def YF (l0 l1 l2 : Int) (bs : List Int) : Img × Int × Int :=
  if (XV l0 l1 l2 bs).2.2 ≠ 0 then (im0, 0, (XV l0 l1 l2 bs).2.2) else
  if 4 ≤ (XV l0 l1 l2 bs).1.1 then
    (if (rawF (XV l0 l1 l2 bs).1.1 (XV l0 l1 l2 bs).1.2.1.toNat (XV l0 l1 l2 bs).1.2.2.1.toNat (XV l0 l1 l2 bs).1.2.2.2 (bs.drop (XV l0 l1 l2 bs).2.1.toNat)).2 ≠ 0 then (im0, 0, (rawF (XV l0 l1 l2 bs).1.1 (XV l0 l1 l2 bs).1.2.1.toNat (XV l0 l1 l2 bs).1.2.2.1.toNat (XV l0 l1 l2 bs).1.2.2.2 (bs.drop (XV l0 l1 l2 bs).2.1.toNat)).2) else
      (⟨QZ (XV l0 l1 l2 bs).1.1, (XV l0 l1 l2 bs).1.2.2.2, (XV l0 l1 l2 bs).1.2.1, (XV l0 l1 l2 bs).1.2.2.1, (rawF (XV l0 l1 l2 bs).1.1 (XV l0 l1 l2 bs).1.2.1.toNat (XV l0 l1 l2 bs).1.2.2.1.toNat (XV l0 l1 l2 bs).1.2.2.2 (bs.drop (XV l0 l1 l2 bs).2.1.toNat)).1⟩, (XV l0 l1 l2 bs).2.1 + ((QD (XV l0 l1 l2 bs).1.1 (XV l0 l1 l2 bs).1.2.1.toNat (Qi (XV l0 l1 l2 bs).1.2.2.2) * (XV l0 l1 l2 bs).1.2.2.1.toNat : Nat) : Int), 0))
  else
    (if (readS (XV l0 l1 l2 bs).1.1 (XV l0 l1 l2 bs).1.2.1 (XV l0 l1 l2 bs).1.2.2.1 (XV l0 l1 l2 bs).1.2.2.2 (bs.drop (XV l0 l1 l2 bs).2.1.toNat)).2.2 ≠ 0 then (im0, 0, (readS (XV l0 l1 l2 bs).1.1 (XV l0 l1 l2 bs).1.2.1 (XV l0 l1 l2 bs).1.2.2.1 (XV l0 l1 l2 bs).1.2.2.2 (bs.drop (XV l0 l1 l2 bs).2.1.toNat)).2.2) else
      (⟨QZ (XV l0 l1 l2 bs).1.1, (XV l0 l1 l2 bs).1.2.2.2, (XV l0 l1 l2 bs).1.2.1, (XV l0 l1 l2 bs).1.2.2.1, (readS (XV l0 l1 l2 bs).1.1 (XV l0 l1 l2 bs).1.2.1 (XV l0 l1 l2 bs).1.2.2.1 (XV l0 l1 l2 bs).1.2.2.2 (bs.drop (XV l0 l1 l2 bs).2.1.toNat)).1⟩, (XV l0 l1 l2 bs).2.1 + (readS (XV l0 l1 l2 bs).1.1 (XV l0 l1 l2 bs).1.2.1 (XV l0 l1 l2 bs).1.2.2.1 (XV l0 l1 l2 bs).1.2.2.2 (bs.drop (XV l0 l1 l2 bs).2.1.toNat)).2.1, 0))
section
variable {l0 l1 l2 : Int} {bs : List Int} {K W H M n e : Int}
theorem parF_e (h : XV l0 l1 l2 bs = ((K, W, H, M), n, e)) (he : e ≠ 0) : YF l0 l1 l2 bs = (im0, 0, e) := by unfold YF; rw [h]; exact if_pos he
theorem parF_re (h : XV l0 l1 l2 bs = ((K, W, H, M), n, 0)) (h4 : 4 ≤ K) {out : List Int} {x : Int} (hr : rawF K W.toNat H.toNat M (bs.drop n.toNat) = (out, x)) (hx : x ≠ 0) : YF l0 l1 l2 bs = (im0, 0, x) := by
  unfold YF; rw [h]; dsimp only; rw [if_neg (fun q => q rfl), if_pos h4, hr]; exact if_pos hx
theorem parF_r (h : XV l0 l1 l2 bs = ((K, W, H, M), n, 0)) (h4 : 4 ≤ K) {out : List Int} (hr : rawF K W.toNat H.toNat M (bs.drop n.toNat) = (out, 0)) : YF l0 l1 l2 bs = (⟨QZ K, M, W, H, out⟩, n + ((QD K W.toNat (Qi M) * H.toNat : Nat) : Int), 0) := by
  unfold YF; rw [h]; dsimp only; rw [if_neg (fun q => q rfl), if_pos h4, hr]; exact if_neg (fun q => q rfl)
theorem parF_pe (h : XV l0 l1 l2 bs = ((K, W, H, M), n, 0)) (h4 : ¬ 4 ≤ K) {out : List Int} {i x : Int} (hr : readS K W H M (bs.drop n.toNat) = (out, i, x)) (hx : x ≠ 0) : YF l0 l1 l2 bs = (im0, 0, x) := by
  unfold YF; rw [h]; dsimp only; rw [if_neg (fun q => q rfl), if_neg h4, hr]; exact if_pos hx
theorem parF_p (h : XV l0 l1 l2 bs = ((K, W, H, M), n, 0)) (h4 : ¬ 4 ≤ K) {out : List Int} {i : Int} (hr : readS K W H M (bs.drop n.toNat) = (out, i, 0)) : YF l0 l1 l2 bs = (⟨QZ K, M, W, H, out⟩, n + i, 0) := by
  unfold YF; rw [h]; dsimp only; rw [if_neg (fun q => q rfl), if_neg h4, hr]; exact if_neg (fun q => q rfl)
end
end Go.Proofs.YtggamdlpiejbiaaGreat
