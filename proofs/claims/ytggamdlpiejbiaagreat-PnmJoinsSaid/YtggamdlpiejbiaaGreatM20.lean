/- Walks and plain laws, a part of the proof of PnmJoins: every input that the law's guards let in, no condition beside. -/
import Derived.Test.YtggamdlpiejbiaaGreatM19
namespace Go.Proofs.YtggamdlpiejbiaaGreat
open Go.RowKit Go.Shelf

def atE (es : List Evt) (n : Int) : List (Evt × Int) := es.map fun x => (x, n)
def dnE (n : Int) : Evt × Int := (⟨3, 0, 0, 0, 0, []⟩, n)
theorem YH (l0 l1 l2 : Int) {h : HS} {bd bd' : Bd} {told imgs c st e : Int} {row bs : List Int} (hp : Xf l0 l1 l2 ⟨some h, 2, bd, told, imgs, false, 0⟩ c = Xm ⟨some h, 2, bd, told + 1, imgs, false, 0⟩ bd' st e row) :
    (st = 0 → QL l0 l1 l2 ⟨some h, 2, bd, told, imgs, false, 0⟩ (c :: bs) = Ye (atE (XC row) (told + 1)) (QL l0 l1 l2 ⟨some h, 2, bd', told + 1, imgs, false, 0⟩ bs)) ∧
    (st = 1 → QL l0 l1 l2 ⟨some h, 2, bd, told, imgs, false, 0⟩ (c :: bs) = Ye (atE (XC row) (told + 1) ++ [dnE (told + 1)]) (QL l0 l1 l2 ⟨some h, 0, .no, told + 1, imgs + 1, false, 0⟩ bs)) ∧
    (st = 2 → e ≠ 0 → QL l0 l1 l2 ⟨some h, 2, bd, told, imgs, false, 0⟩ (c :: bs) = (⟨some h, 2, bd', told + 1, imgs, false, e⟩, atE (XC row) (told + 1))) := by
  refine ⟨fun hs => ?_, fun hs => ?_, fun hs he => ?_⟩
  · subst hs
    rw [Xz, hp]
    simp [Xm, Xq, atE]
  · subst hs
    rw [Xz, hp]
    simp [Xm, Xq, atE, dnE]
  · subst hs
    rw [Xz, hp]
    simp only [Xm, if_true, Xq, show ¬ (2 : Int) = 1 from by decide, if_false, List.append_nil]
    rw [psRun_dead _ _ _ _ (.inr he)]
    simp [Ye, atE]
theorem put_pl (l0 l1 l2 : Int) {h : HS} {r : RS} {told imgs c : Int} : Xf l0 l1 l2 ⟨some h, 2, .pl r, told, imgs, false, 0⟩ c = Xm ⟨some h, 2, .pl r, told + 1, imgs, false, 0⟩ (.pl (XH h.K h.W h.H h.M r c).1) (XH h.K h.W h.H h.M r c).1.last (XH h.K h.W h.H h.M r c).1.e (XH h.K h.W h.H h.M r c).2 := by
  rw [Zh _ _ _ rfl rfl]
  exact (if_neg (show ¬ (2 : Int) = 0 by decide)).trans (if_neg (show ¬ (2 : Int) = 1 by decide))
theorem put_rw (l0 l1 l2 : Int) {h : HS} {r : RW} {told imgs c : Int} : Xf l0 l1 l2 ⟨some h, 2, .rw r, told, imgs, false, 0⟩ c = Xm ⟨some h, 2, .rw r, told + 1, imgs, false, 0⟩ (.rw (Xj h.K h.W.toNat h.H h.M r c).1) (Xj h.K h.W.toNat h.H h.M r c).1.last (Xj h.K h.W.toNat h.H h.M r c).1.e (Xj h.K h.W.toNat h.H h.M r c).2 := by
  rw [Zh _ _ _ rfl rfl]
  exact (if_neg (show ¬ (2 : Int) = 0 by decide)).trans (if_neg (show ¬ (2 : Int) = 1 by decide))
end Go.Proofs.YtggamdlpiejbiaaGreat
namespace Go.Proofs.YtggamdlpiejbiaaGreat
open Go.RowKit Go.Shelf

def okUpto (K M : Int) (w : Nat) (r : List Int) (n : Nat) : Prop := K ≠ 4 → ∀ i, (i + 1) * w ≤ n → (i + 1) * w ≤ r.length → Xu w r i ≤ M
theorem set_take {b r : List Int} {k : Nat} (hk : k < r.length) (hb : k < b.length) (ht : b.take k = r.take k) : (b.set k r[k]).take (k + 1) = r.take (k + 1) := by
  rw [List.take_set, List.take_succ_eq_append_getElem hb, List.take_succ_eq_append_getElem hk, ht]
  rw [List.set_append_right _ _ (by rw [List.length_take]; omega)]
  simp [List.length_take, Nat.min_eq_left (Nat.le_of_lt hk)]
theorem smp_take {w : Nat} (hw : w = 1 ∨ w = 2) {b r : List Int} {k i : Nat} (ht : b.take k = r.take k) (hi : (i + 1) * w ≤ k) : Xu w b i = Xu w r i := by
  have hq : ∀ j, j < k → b[j]? = r[j]? := fun j hj => by
    have := congrArg (fun l => l[j]?) ht
    simpa [List.getElem?_take, hj] using this
  unfold Xu
  rcases hw with rfl | rfl
  · rw [if_pos rfl, if_pos rfl, hq _ (by omega)]
  · rw [if_neg (by decide), if_neg (by decide), hq _ (by omega), hq _ (by omega)]
section
variable {l0 l1 l2 : Int} {h : HS} {imgs : Int}
/-- One byte within a row, not its last, and not a bad one's last. -/
theorem rw_mid {b : List Int} {k : Nat} {y e c : Int} (hn : k + 1 < b.length) (hg : ¬ (h.K ≠ 4 ∧ (k + 1) % Qg h.M = 0 ∧ Xu (Qg h.M) (b.set k c) ((k + 1) / Qg h.M - 1) > h.M)) : Xj h.K h.W.toNat h.H h.M ⟨b, k, y, 0, e⟩ c = (⟨b.set k c, k + 1, y, 0, e⟩, []) := by
  unfold Xj
  rw [if_neg (by simp), if_neg hg, if_pos (by simpa using hn)]
theorem rw_last {b : List Int} {k : Nat} {y e c : Int} (hn : ¬ k + 1 < b.length) (hg : ¬ (h.K ≠ 4 ∧ (k + 1) % Qg h.M = 0 ∧ Xu (Qg h.M) (b.set k c) ((k + 1) / Qg h.M - 1) > h.M)) : Xj h.K h.W.toNat h.H h.M ⟨b, k, y, 0, e⟩ c = (⟨b.set k c, 0, y + 1, if y + 1 = h.H then 1 else 0, e⟩, Yw h.K h.W.toNat (Qg h.M) (b.set k c)) := by
  unfold Xj
  rw [if_neg (by simp), if_neg hg, if_neg (by simpa using hn)]
theorem rw_bad {b : List Int} {k : Nat} {y e c : Int} (hg : h.K ≠ 4 ∧ (k + 1) % Qg h.M = 0 ∧ Xu (Qg h.M) (b.set k c) ((k + 1) / Qg h.M - 1) > h.M) : Xj h.K h.W.toNat h.H h.M ⟨b, k, y, 0, e⟩ c = (⟨b.set k c, k + 1, y, 2, 5⟩, []) := by
  unfold Xj
  rw [if_neg (by simp), if_pos hg]
/-- A row's bytes that are good: whole, or cut off. -/
theorem row_run {n : Nat} {r : List Int} {y t0 : Int} (hok : okUpto h.K h.M (Qg h.M) r n) (hW : 1 ≤ h.W.toNat) (hn : n = QF h.K h.W.toNat (Qg h.M)) : ∀ (m k : Nat), m = n - k → k < n → ∀ (b : List Int), b.length = n → k ≤ r.length → b.take k = r.take k →
    (n ≤ r.length → y + 1 ≠ h.H → ∃ e', e' = (0 : Int) ∧ QL l0 l1 l2 ⟨some h, 2, .rw ⟨b, k, y, 0, 0⟩, t0 + k, imgs, false, 0⟩ (r.drop k) = Ye [(⟨2, 0, 0, 0, 0, Yw h.K h.W.toNat (Qg h.M) (r.take n)⟩, t0 + n)] (QL l0 l1 l2 ⟨some h, 2, .rw ⟨r.take n, 0, y + 1, 0, e'⟩, t0 + n, imgs, false, 0⟩ (r.drop n))) ∧
    (n ≤ r.length → y + 1 = h.H → QL l0 l1 l2 ⟨some h, 2, .rw ⟨b, k, y, 0, 0⟩, t0 + k, imgs, false, 0⟩ (r.drop k) = Ye [(⟨2, 0, 0, 0, 0, Yw h.K h.W.toNat (Qg h.M) (r.take n)⟩, t0 + n), dnE (t0 + n)] (QL l0 l1 l2 ⟨some h, 0, .no, t0 + n, imgs + 1, false, 0⟩ (r.drop n))) ∧
    (r.length < n → ∃ s, QL l0 l1 l2 ⟨some h, 2, .rw ⟨b, k, y, 0, 0⟩, t0 + k, imgs, false, 0⟩ (r.drop k) = (⟨some h, 2, .rw s, t0 + r.length, imgs, false, 0⟩, [])) := by
  have hw := Q2 h.M
  intro m
  induction m with
  | zero => intro k hm hk; omega
  | succ m ih =>
    intro k hm hk b hb hkr ht
    by_cases hke : k = r.length
    · refine ⟨fun q => by omega, fun q => by omega, fun _ => ⟨⟨b, k, y, 0, 0⟩, ?_⟩⟩
      rw [List.drop_of_length_le (by omega), hke]; rfl
    have hkl : k < r.length := by omega
    have hdr := List.drop_eq_getElem_cons hkl
    have hst := set_take hkl (by omega) ht
    have hg : ¬ (h.K ≠ 4 ∧ (k + 1) % Qg h.M = 0 ∧ Xu (Qg h.M) (b.set k r[k]) ((k + 1) / Qg h.M - 1) > h.M) := by
      rintro ⟨h1, h2, h3⟩
      have hx : ((k + 1) / Qg h.M - 1 + 1) * Qg h.M = k + 1 := by
        rcases hw with e | e <;> rw [e] at h2 ⊢ <;> omega
      rw [smp_take hw hst (by omega)] at h3
      have := hok h1 _ (by rw [hx]; omega) (by rw [hx]; omega)
      omega
    have hsl : (b.set k r[k]).length = n := by rw [List.length_set, hb]
    have hcast : t0 + ((k + 1 : Nat) : Int) = t0 + k + 1 := by push_cast; omega
    have hq := put_rw l0 l1 l2 (h := h) (r := ⟨b, k, y, 0, 0⟩) (told := t0 + k) (imgs := imgs) (c := r[k])
    by_cases hl : k + 1 < n
    · rw [rw_mid (by omega) hg] at hq
      have hr := (YH l0 l1 l2 (bs := r.drop (k + 1)) hq).1 rfl
      have hi := ih (k + 1) (by omega) hl (b.set k r[k]) hsl (by omega) hst
      rw [hcast] at hi
      rw [hdr, hr]
      have hre : atE (XC []) (t0 + k + 1) = [] := rfl
      rw [hre, papp_nil]
      exact hi
    · have hke2 : k + 1 = n := by omega
      rw [rw_last (by omega) hg] at hq
      have hall : b.set k r[k] = r.take n := by
        have h1 : (b.set k r[k]).take (k + 1) = b.set k r[k] := List.take_of_length_le (by omega)
        rw [← h1, hst, hke2]
      rw [hall] at hq
      have hrl : (Yw h.K h.W.toNat (Qg h.M) (r.take n)).length = h.W.toNat := Y6 hw (by rw [List.length_take]; omega)
      have hre : XC (Yw h.K h.W.toNat (Qg h.M) (r.take n)) = [⟨2, 0, 0, 0, 0, Yw h.K h.W.toNat (Qg h.M) (r.take n)⟩] := if_neg (fun q => by rw [q] at hrl; simp at hrl; omega)
      have hr := YH l0 l1 l2 (bs := r.drop (k + 1)) hq
      have hcast2 : t0 + (n : Int) = t0 + k + 1 := by rw [← hke2]; exact hcast
      refine ⟨fun _ hy => ⟨0, rfl, ?_⟩, fun _ hy => ?_, fun q => by omega⟩
      · have hr1 := hr.1 (if_neg hy)
        rw [hdr, hr1, hre, hcast2, ← hke2, if_neg hy]; rfl
      · have hr1 := hr.2.1 (if_pos hy)
        rw [hdr, hr1, hre, hcast2, ← hke2]; rfl
/-- A row's bytes of which a sample is bad. -/
theorem row_bad {n i0 : Nat} {r : List Int} {y t0 : Int} (hK : h.K ≠ 4) (hbad : Xu (Qg h.M) r i0 > h.M) (hok : ∀ i, i < i0 → Xu (Qg h.M) r i ≤ h.M) (h1 : (i0 + 1) * Qg h.M ≤ n) (h2 : (i0 + 1) * Qg h.M ≤ r.length) : ∀ (m k : Nat), m = (i0 + 1) * Qg h.M - k → k < (i0 + 1) * Qg h.M → ∀ (b : List Int), b.length = n → b.take k = r.take k →
    ∃ s, QL l0 l1 l2 ⟨some h, 2, .rw ⟨b, k, y, 0, 0⟩, t0 + k, imgs, false, 0⟩ (r.drop k) = (⟨some h, 2, .rw s, t0 + ((i0 + 1) * Qg h.M : Nat), imgs, false, 5⟩, []) := by
  have hw := Q2 h.M
  intro m
  induction m with
  | zero => intro k hm hk; omega
  | succ m ih =>
    intro k hm hk b hb ht
    have hkl : k < r.length := by omega
    have hdr := List.drop_eq_getElem_cons hkl
    have hst := set_take hkl (by omega) ht
    have hcast : t0 + ((k + 1 : Nat) : Int) = t0 + k + 1 := by push_cast; omega
    have hq := put_rw l0 l1 l2 (h := h) (r := ⟨b, k, y, 0, 0⟩) (told := t0 + k) (imgs := imgs) (c := r[k])
    by_cases hl : k + 1 < (i0 + 1) * Qg h.M
    · have hg : ¬ (h.K ≠ 4 ∧ (k + 1) % Qg h.M = 0 ∧ Xu (Qg h.M) (b.set k r[k]) ((k + 1) / Qg h.M - 1) > h.M) := by
        rintro ⟨_, h4, h3⟩
        have hx : ((k + 1) / Qg h.M - 1 + 1) * Qg h.M = k + 1 ∧ (k + 1) / Qg h.M - 1 < i0 := by
          rcases hw with e | e <;> rw [e] at h4 hl ⊢ <;> omega
        rw [smp_take hw hst (by omega)] at h3
        have := hok _ hx.2
        omega
      rw [rw_mid (by omega) hg] at hq
      have hr := (YH l0 l1 l2 (bs := r.drop (k + 1)) hq).1 rfl
      have hi := ih (k + 1) (by omega) hl (b.set k r[k]) (by rw [List.length_set, hb]) hst
      rw [hcast] at hi
      rw [hdr, hr]
      exact hi
    · have hke2 : k + 1 = (i0 + 1) * Qg h.M := by omega
      have hg : h.K ≠ 4 ∧ (k + 1) % Qg h.M = 0 ∧ Xu (Qg h.M) (b.set k r[k]) ((k + 1) / Qg h.M - 1) > h.M := by
        have hx : (k + 1) % Qg h.M = 0 ∧ (k + 1) / Qg h.M - 1 = i0 := by
          rw [hke2]
          rcases hw with e | e <;> rw [e] <;> omega
        refine ⟨hK, hx.1, ?_⟩
        rw [hx.2, smp_take hw hst (by omega)]
        exact hbad
      rw [rw_bad hg] at hq
      have hr := (YH l0 l1 l2 (bs := r.drop (k + 1)) hq).2.2 rfl (by simp)
      refine ⟨⟨b.set k r[k], k + 1, y, 2, 5⟩, ?_⟩
      rw [hdr, hr, ← hke2, hcast]; rfl
end
theorem badI_spec (w M : Int) : ∀ (S : List Int) (i : Int), (badI w M S i = 0 ∧ ∀ x ∈ S, x ≤ M) ∨ ∃ j, ∃ hj : j < S.length, S[j] > M ∧ (∀ j' (h : j' < j), S[j']'(by omega) ≤ M) ∧ badI w M S i = w * (i + j + 1)
  | [], i => .inl ⟨rfl, fun x hx => by simp at hx⟩
  | x :: S, i => by
    by_cases hx : x > M
    · exact .inr ⟨0, by simp, hx, fun j' h => by omega, by rw [badI, if_pos hx]; simp⟩
    · rcases badI_spec w M S (i + 1) with ⟨h1, h2⟩ | ⟨j, hj, h1, h2, h3⟩
      · refine .inl ⟨by rw [badI, if_neg hx, h1], fun z hz => ?_⟩
        rcases List.mem_cons.1 hz with rfl | hz
        · omega
        · exact h2 z hz
      · refine .inr ⟨j + 1, by simpa using hj, by simpa using h1, fun j' h => ?_, by rw [badI, if_neg hx, h3]; congr 1; push_cast; omega⟩
        cases j' with
        | zero => simp only [List.getElem_cons_zero]; omega
        | succ j' => simpa using h2 j' (by omega)

theorem smpAt_drop {w : Nat} (hw : w = 1 ∨ w = 2) (R : List Int) (P i : Nat) : Xu w (R.drop (P * w)) i = Xu w R (P + i) := by
  unfold Xu
  rcases hw with rfl | rfl
  · rw [if_pos rfl, if_pos rfl, List.getElem?_drop, show P * 1 + i = P + i by omega]
  · rw [if_neg (by decide), if_neg (by decide), List.getElem?_drop, List.getElem?_drop, show P * 2 + 2 * i = 2 * (P + i) by omega, show P * 2 + (2 * i + 1) = 2 * (P + i) + 1 by omega]
theorem smps_at {w : Nat} (hw : w = 1 ∨ w = 2) (R : List Int) {j N : Nat} (h1 : (j + 1) * w ≤ N) (h2 : (j + 1) * w ≤ R.length) : ∃ hj : j < (Zw w (R.take N)).length, (Zw w (R.take N))[j] = Xu w R j := by
  have hl : (R.take N).length = min N R.length := List.length_take
  refine ⟨by rw [Z4, hl]; rcases hw with rfl | rfl <;> omega, ?_⟩
  simp only [Zw, List.getElem_map, List.getElem_range]
  exact smp_take hw (k := N) (by rw [List.take_take, Nat.min_self]) h1
section
variable {K M : Int} {W H : Nat}
theorem strd_q (hK : K ≠ 4) : QF K W (Qg M) = (W * (QW K).toNat) * Qg M := if_neg hK
/-- Where a row's samples are among all of a raster. -/
theorem row_pos {R : List Int} {y i : Nat} (hy : y < H) (hK : K ≠ 4) (h1 : (i + 1) * Qg M ≤ QF K W (Qg M)) (h2 : y * QF K W (Qg M) + (i + 1) * Qg M ≤ R.length) :
    ∃ P, y * QF K W (Qg M) = P * Qg M ∧ ∃ hj : P + i < (Zw (Qg M) (R.take (QF K W (Qg M) * H))).length, (Zw (Qg M) (R.take (QF K W (Qg M) * H)))[P + i] = Xu (Qg M) (R.drop (y * QF K W (Qg M))) i := by
  have hw := Q2 M
  have hn := strd_q (M := M) (W := W) hK
  have hP : y * QF K W (Qg M) = (y * (W * (QW K).toNat)) * Qg M := by rw [hn]; exact (Nat.mul_assoc _ _ _).symm
  have hH : (y + 1) * QF K W (Qg M) ≤ QF K W (Qg M) * H := by rw [Nat.mul_comm]; exact Nat.mul_le_mul_left _ hy
  have hy1 : (y + 1) * QF K W (Qg M) = y * QF K W (Qg M) + QF K W (Qg M) := by rw [Nat.add_mul, Nat.one_mul]
  refine ⟨_, hP, ?_⟩
  rw [hP, smpAt_drop hw]
  have hj : ((y * (W * (QW K).toNat)) + i + 1) * Qg M = (y * (W * (QW K).toNat)) * Qg M + (i + 1) * Qg M := by rw [← Nat.add_mul]; congr 1
  exact smps_at hw R (by rw [hj, ← hP]; omega) (by rw [hj, ← hP]; exact h2)
theorem badR_n4 {R : List Int} (hK : K ≠ 4) : Zj K W H M R = badI ((Qg M : Nat) : Int) M (Zw (Qg M) (R.take (QF K W (Qg M) * H))) 0 := if_neg hK
theorem row_ok {R : List Int} {y : Nat} (hy : y < H) (hb : ¬ (Zj K W H M R > 0 ∧ Zj K W H M R ≤ (((y + 1) * QF K W (Qg M) : Nat) : Int))) : okUpto K M (Qg M) (R.drop (y * QF K W (Qg M))) (QF K W (Qg M)) := by
  intro hK i h1 h2
  have hw := Q2 M
  rw [List.length_drop] at h2
  have h2' : y * QF K W (Qg M) + (i + 1) * Qg M ≤ R.length := by
    have : 1 ≤ (i + 1) * Qg M := Nat.mul_pos (by omega) (by omega)
    omega
  obtain ⟨P, hP, hj, he⟩ := row_pos (H := H) hy hK h1 h2'
  have hy1 : (y + 1) * QF K W (Qg M) = y * QF K W (Qg M) + QF K W (Qg M) := by rw [Nat.add_mul, Nat.one_mul]
  rw [hy1, hP] at hb
  rw [← he]
  rw [badR_n4 hK] at hb
  rcases badI_spec ((Qg M : Nat) : Int) M (Zw (Qg M) (R.take (QF K W (Qg M) * H))) 0 with ⟨_, hall⟩ | ⟨j, hjl, hjb, hjo, hje⟩
  · exact hall _ (List.getElem_mem hj)
  · by_cases hlt : P + i < j
    · exact hjo _ hlt
    · exfalso
      apply hb
      rw [hje]
      rcases hw with e | e <;> rw [e] at h1 ⊢ <;> push_cast <;> omega
theorem row_isbad {R : List Int} {y : Nat} (_hy : y < H) (h0 : Zj K W H M R > 0) (h1 : Zj K W H M R ≤ (((y + 1) * QF K W (Qg M) : Nat) : Int)) (h2 : ¬ Zj K W H M R ≤ ((y * QF K W (Qg M) : Nat) : Int)) :
    K ≠ 4 ∧ ∃ i0, Xu (Qg M) (R.drop (y * QF K W (Qg M))) i0 > M ∧ (∀ i, i < i0 → Xu (Qg M) (R.drop (y * QF K W (Qg M))) i ≤ M) ∧ (i0 + 1) * Qg M ≤ QF K W (Qg M) ∧ (i0 + 1) * Qg M ≤ (R.drop (y * QF K W (Qg M))).length ∧ Zj K W H M R = ((y * QF K W (Qg M) + (i0 + 1) * Qg M : Nat) : Int) := by
  have hK : K ≠ 4 := fun h => by unfold Zj at h0; rw [if_pos h] at h0; omega
  refine ⟨hK, ?_⟩
  have hw := Q2 M
  have hn := strd_q (M := M) (W := W) hK
  have hP : y * QF K W (Qg M) = (y * (W * (QW K).toNat)) * Qg M := by rw [hn]; exact (Nat.mul_assoc _ _ _).symm
  have hy1 : (y + 1) * QF K W (Qg M) = y * QF K W (Qg M) + QF K W (Qg M) := by rw [Nat.add_mul, Nat.one_mul]
  rw [badR_n4 hK] at h0 h1 h2 ⊢
  rcases badI_spec ((Qg M : Nat) : Int) M (Zw (Qg M) (R.take (QF K W (Qg M) * H))) 0 with ⟨hz, _⟩ | ⟨j, hjl, hjb, hjo, hje⟩
  · omega
  rw [hje] at h0 h1 h2 ⊢
  have hjl2 := hjl
  rw [Z4, List.length_take] at hjl2
  rw [hy1] at h1
  obtain ⟨P, hPd⟩ : ∃ P, P = y * (W * (QW K).toNat) := ⟨_, rfl⟩
  obtain ⟨q, hqd⟩ : ∃ q, q = W * (QW K).toNat := ⟨_, rfl⟩
  rw [← hPd] at hP
  rw [← hqd] at hn
  rw [hP] at h1 h2 ⊢
  have hPj : P ≤ j := by rcases hw with e | e <;> rw [e] at h2 <;> push_cast at h2 <;> omega
  have hi1 : (j - P + 1) * Qg M ≤ QF K W (Qg M) := by
    rw [hn] at h1 ⊢
    have : j + 1 ≤ P + q := by
      rcases hw with e | e <;> rw [e] at h1 <;> push_cast at h1 <;> omega
    exact Nat.mul_le_mul_right _ (by omega)
  have hlen : P * Qg M + (j - P + 1) * Qg M ≤ R.length := by
    rw [← Nat.add_mul]
    have hx : P + (j - P + 1) = j + 1 := by omega
    rw [hx]
    rcases hw with e | e <;> rw [e] at hjl2 ⊢ <;> omega
  refine ⟨j - P, ?_, ?_, hi1, by rw [List.length_drop]; omega, ?_⟩
  · rw [smpAt_drop hw, show P + (j - P) = j by omega]
    have hN : (j + 1) * Qg M ≤ QF K W (Qg M) * H := by rcases hw with e | e <;> rw [e] at hjl2 ⊢ <;> omega
    have hR : (j + 1) * Qg M ≤ R.length := by rcases hw with e | e <;> rw [e] at hjl2 ⊢ <;> omega
    obtain ⟨_, he⟩ := smps_at hw R hN hR
    rw [← he]; exact hjb
  · intro i hi
    rw [smpAt_drop hw]
    have hN : (P + i + 1) * Qg M ≤ QF K W (Qg M) * H := by rcases hw with e | e <;> rw [e] at hjl2 ⊢ <;> omega
    have hR : (P + i + 1) * Qg M ≤ R.length := by rcases hw with e | e <;> rw [e] at hjl2 ⊢ <;> omega
    obtain ⟨_, he⟩ := smps_at hw R hN hR
    rw [← he]; exact hjo _ (by omega)
  · rw [← Nat.add_mul, show P + (j - P + 1) = j + 1 by omega]; push_cast; rw [Int.zero_add, Int.mul_comm]
end
/-- How a raw raster stands in the reference: so YO rows, the events. -/
def rwI (l0 l1 l2 : Int) (h : HS) (bs : List Int) (at0 : Nat) (imgs : Int) (y : Nat) (out : List (Evt × Int)) : Prop :=
  ((y : Int) < h.H → ∃ b, b.length = QF h.K h.W.toNat (Qg h.M) ∧ QL l0 l1 l2 ⟨some h, 2, .rw (rw0 h), at0, imgs, false, 0⟩ (bs.drop at0) = Ye out (QL l0 l1 l2 ⟨some h, 2, .rw ⟨b, 0, y, 0, 0⟩, ((at0 + y * QF h.K h.W.toNat (Qg h.M) : Nat) : Int), imgs, false, 0⟩ (bs.drop (at0 + y * QF h.K h.W.toNat (Qg h.M))))) ∧
  ((y : Int) = h.H → QL l0 l1 l2 ⟨some h, 2, .rw (rw0 h), at0, imgs, false, 0⟩ (bs.drop at0) = Ye (out ++ [dnE ((at0 + y * QF h.K h.W.toNat (Qg h.M) : Nat) : Int)]) (QL l0 l1 l2 ⟨some h, 0, .no, ((at0 + y * QF h.K h.W.toNat (Qg h.M) : Nat) : Int), imgs + 1, false, 0⟩ (bs.drop (at0 + y * QF h.K h.W.toNat (Qg h.M)))))
section
variable {l0 l1 l2 : Int} {h : HS} {bs : List Int} {at0 : Nat} {imgs : Int} {y : Nat} {out : List (Evt × Int)} {fin : Bool}
theorem rwI0 (hH : 1 ≤ h.H) : rwI l0 l1 l2 h bs at0 imgs 0 [] := by
  refine ⟨fun _ => ⟨List.replicate (QF h.K h.W.toNat (Qg h.M)) 0, by simp, ?_⟩, fun q => by omega⟩
  rw [papp_nil, Nat.zero_mul, Nat.add_zero]; rfl
theorem rw_bad' (_hf : YC h) (hI : rwI l0 l1 l2 h bs at0 imgs y out) (hy : (y : Int) < h.H) (h0 : Zj h.K h.W.toNat h.H.toNat h.M (bs.drop at0) > 0) (h1 : Zj h.K h.W.toNat h.H.toNat h.M (bs.drop at0) ≤ (((y + 1) * QF h.K h.W.toNat (Qg h.M) : Nat) : Int)) (h2 : ¬ Zj h.K h.W.toNat h.H.toNat h.M (bs.drop at0) ≤ ((y * QF h.K h.W.toNat (Qg h.M) : Nat) : Int)) :
    BodyOut l0 l1 l2 fin h (.rw (rw0 h)) bs at0 imgs out (at0 + Zj h.K h.W.toNat h.H.toNat h.M (bs.drop at0)) 5 := by
  obtain ⟨b, hb, hr⟩ := hI.1 hy
  obtain ⟨hK, i0, g1, g2, g3, g4, g5⟩ := row_isbad (H := h.H.toNat) (y := y) (by omega) h0 h1 h2
  rw [List.drop_drop] at g1 g2 g4
  have hpos : 0 < (i0 + 1) * Qg h.M := Nat.mul_pos (by omega) (by have := Q2 h.M; omega)
  obtain ⟨s, hs⟩ := row_bad (l0 := l0) (l1 := l1) (l2 := l2) (imgs := imgs) (y := y) (t0 := ((at0 + y * QF h.K h.W.toNat (Qg h.M) : Nat) : Int)) hK g1 g2 g3 g4 _ 0 rfl hpos b hb (by simp)
  rw [List.drop_zero, Int.natCast_zero, Int.add_zero] at hs
  refine ⟨fun q => absurd q (by decide), fun _ => ⟨⟨some h, 2, .rw s, ((at0 + y * QF h.K h.W.toNat (Qg h.M) : Nat) : Int) + (((i0 + 1) * Qg h.M : Nat) : Int), imgs, false, 5⟩, ?_, rfl, ?_, rfl⟩⟩
  · rw [Int.toNat_natCast, hr, hs]
    simp only [Ye, List.append_nil]
    exact psFin_dead (.inr (by simp))
  · simp only; rw [g5]; push_cast; omega
theorem rw_row (hf : YC h) (hI : rwI l0 l1 l2 h bs at0 imgs y out) (hy : (y : Int) < h.H) (hb0 : ¬ (Zj h.K h.W.toNat h.H.toNat h.M (bs.drop at0) > 0 ∧ Zj h.K h.W.toNat h.H.toNat h.M (bs.drop at0) ≤ (((y + 1) * QF h.K h.W.toNat (Qg h.M) : Nat) : Int))) (hl : at0 + (y + 1) * QF h.K h.W.toNat (Qg h.M) ≤ bs.length) :
    rwI l0 l1 l2 h bs at0 imgs (y + 1) (out ++ [(⟨2, 0, 0, 0, 0, Yw h.K h.W.toNat (Qg h.M) ((bs.drop (at0 + y * QF h.K h.W.toNat (Qg h.M))).take (QF h.K h.W.toNat (Qg h.M)))⟩, ((at0 + (y + 1) * QF h.K h.W.toNat (Qg h.M) : Nat) : Int))]) := by
  obtain ⟨b, hb, hr⟩ := hI.1 hy
  have hM := hf.2.2
  unfold Xv at hM
  have hsb := XU (K := h.K) (W := h.W.toNat) (Q2 h.M) (by omega) (by omega)
  have hok := row_ok (H := h.H.toNat) (y := y) (by omega) hb0
  rw [List.drop_drop] at hok
  have hy1 : (y + 1) * QF h.K h.W.toNat (Qg h.M) = y * QF h.K h.W.toNat (Qg h.M) + QF h.K h.W.toNat (Qg h.M) := by rw [Nat.add_mul, Nat.one_mul]
  have hrun := row_run (l0 := l0) (l1 := l1) (l2 := l2) (imgs := imgs) (y := y) (t0 := ((at0 + y * QF h.K h.W.toNat (Qg h.M) : Nat) : Int)) hok (by omega) rfl _ 0 rfl (by omega) b hb (Nat.zero_le _) (by simp)
  rw [List.drop_zero, Int.natCast_zero, Int.add_zero, List.drop_drop] at hrun
  have hcast : ((at0 + y * QF h.K h.W.toNat (Qg h.M) : Nat) : Int) + ((QF h.K h.W.toNat (Qg h.M) : Nat) : Int) = ((at0 + (y + 1) * QF h.K h.W.toNat (Qg h.M) : Nat) : Int) := by rw [hy1]; push_cast; omega
  have hdr : at0 + y * QF h.K h.W.toNat (Qg h.M) + QF h.K h.W.toNat (Qg h.M) = at0 + (y + 1) * QF h.K h.W.toNat (Qg h.M) := by rw [hy1]; omega
  rw [hcast, hdr] at hrun
  have hlen : QF h.K h.W.toNat (Qg h.M) ≤ (bs.drop (at0 + y * QF h.K h.W.toNat (Qg h.M))).length := by rw [List.length_drop]; omega
  refine ⟨fun q => ?_, fun q => ?_⟩
  · obtain ⟨e', he', hx⟩ := hrun.1 hlen (by push_cast at q; omega)
    subst he'
    refine ⟨_, ?_, by rw [hr, hx, papp_papp]; rfl⟩
    rw [List.length_take]; omega
  · have hx := hrun.2.1 hlen (by push_cast at q; omega)
    rw [hr, hx, papp_papp, List.append_assoc]; rfl
theorem rw_short (hf : YC h) (hI : rwI l0 l1 l2 h bs at0 imgs y out) (hy : (y : Int) < h.H) (hat : at0 + y * QF h.K h.W.toNat (Qg h.M) ≤ bs.length) (hb0 : ¬ (Zj h.K h.W.toNat h.H.toNat h.M (bs.drop at0) > 0 ∧ Zj h.K h.W.toNat h.H.toNat h.M (bs.drop at0) ≤ (((y + 1) * QF h.K h.W.toNat (Qg h.M) : Nat) : Int))) (hl : ¬ at0 + (y + 1) * QF h.K h.W.toNat (Qg h.M) ≤ bs.length) :
    BodyOut l0 l1 l2 fin h (.rw (rw0 h)) bs at0 imgs out bs.length (if fin = true then 6 else 9) := by
  obtain ⟨b, hb, hr⟩ := hI.1 hy
  have hM := hf.2.2
  unfold Xv at hM
  have hsb := XU (K := h.K) (W := h.W.toNat) (Q2 h.M) (by omega) (by omega)
  have hok := row_ok (H := h.H.toNat) (y := y) (by omega) hb0
  rw [List.drop_drop] at hok
  have hy1 : (y + 1) * QF h.K h.W.toNat (Qg h.M) = y * QF h.K h.W.toNat (Qg h.M) + QF h.K h.W.toNat (Qg h.M) := by rw [Nat.add_mul, Nat.one_mul]
  have hrun := row_run (l0 := l0) (l1 := l1) (l2 := l2) (imgs := imgs) (y := y) (t0 := ((at0 + y * QF h.K h.W.toNat (Qg h.M) : Nat) : Int)) hok (by omega) rfl _ 0 rfl (by omega) b hb (Nat.zero_le _) (by simp)
  rw [List.drop_zero, Int.natCast_zero, Int.add_zero] at hrun
  obtain ⟨s, hx⟩ := hrun.2.2 (by rw [List.length_drop]; omega)
  have hcast : ((at0 + y * QF h.K h.W.toNat (Qg h.M) : Nat) : Int) + (((bs.drop (at0 + y * QF h.K h.W.toNat (Qg h.M))).length : Nat) : Int) = ((bs.length : Nat) : Int) := by rw [List.length_drop]; omega
  rw [hcast] at hx
  refine ⟨fun q => by cases fin <;> simp at q, fun _ => ?_⟩
  rw [Int.toNat_natCast, hr, hx]
  cases fin with
  | false => exact ⟨⟨some h, 2, .rw s, bs.length, imgs, false, 0⟩, by simp [psFin, Ye], by simp, rfl, rfl⟩
  | true => exact ⟨⟨some h, 2, .rw s, bs.length, imgs, true, 6⟩, by simp [psFin, Ye, XV], by simp, rfl, rfl⟩
end

end Go.Proofs.YtggamdlpiejbiaaGreat
namespace Go.Proofs.YtggamdlpiejbiaaGreat
open Go.RowKit Go.Shelf


theorem sampleS_row (ch : Int) (one row : List Int) (x : Int) : (XE ch one row x).2.length ≤ row.length + 1 := by
  unfold XE
  split
  · simp
  · simp
theorem endsR_row (ch : Int) (s : RS) : (YA ch s).row.length ≤ s.row.length + 1 := by
  unfold YA
  split
  · omega
  · exact sampleS_row _ _ _ _
theorem stepR_row (K M : Int) (s : RS) (c : Int) : (XW K M s c).1.row.length ≤ s.row.length + 1 := by
  unfold XW bitR Z2
  repeat' split
  all_goals first | exact endsR_row _ _ | exact sampleS_row _ _ _ _ | (simp only; omega)
theorem fullR_w {W H : Int} {s : RS} {n : Nat} (h : s.row.length ≤ n) : (XB W H s).2.length ≤ n := by
  unfold XB
  split
  · exact Nat.zero_le _
  · exact h
theorem putR_w {K W H M c : Int} {s : RS} (h : (s.row.length : Int) < W) (hW : W ≤ 4096) : (XH K W H M s c).2.length ≤ 4096 := by
  have := stepR_row K M s c
  unfold XH
  split
  · exact Nat.zero_le _
  · split
    · exact Nat.zero_le _
    · exact fullR_w (by omega)
theorem endR_w {K W H : Int} {s : RS} (h : (s.row.length : Int) < W) (hW : W ≤ 4096) : (Yd K W H s).2.length ≤ 4096 := by
  have := endsR_row (QW K) s
  unfold Yd
  split
  · exact Nat.zero_le _
  · split
    · exact fullR_w (by omega)
    · exact fullR_w (by omega)
end Go.Proofs.YtggamdlpiejbiaaGreat
namespace Go.Proofs.YtggamdlpiejbiaaGreat
open Go.RowKit Go.Shelf
section
variable {P : Program} {n : Cx} {D : List Deferred} {Q : Post} {fr : Fr} {l : List HP} {fB : List HP}
def lowOk (os : List Oper) : Bool := ((os.zipIdx).all fun (o, i) => o.after.toList.all fun e => !Region.binds .any e || Nat.blt e.on i) && (os.all fun o => match o.guard with | some p => Nat.blt p.1 os.length | none => true)
theorem any_tail {os tl : List Oper} {Q Q' : Exit → Act → World → Prop} (ht : tailOk os.length tl = true) (hlo : lowOk os = true) (hq : ∀ e a w, e ≠ .normal → Q' e a w → Q e a w) (hn : ∀ a w, Q' .normal a w → wpListIn (FR n.ro) 0 P (os ++ tl).toArray Q tl a w) :
    ∀ (fuel : Nat) (listed listed' : Array Bool) (a : Act) (w : World), listed.size = (os ++ tl).length → listed'.size = os.length → (∀ i, i < os.length → listed'.getD i false = listed.getD i false) → (∀ i, os.length ≤ i → i < (os ++ tl).length → listed.getD i false = false) →
    wpAnyIn (FR n.ro) 0 P .any os.toArray Q' fuel listed' a w → wpAnyIn (FR n.ro) 0 P .any (os ++ tl).toArray Q (fuel + tl.length) listed a w := by
  simp only [lowOk, Bool.and_eq_true] at hlo
  obtain ⟨hlow, hgd⟩ := hlo
  have hlow' : ∀ (i : Nat) (o : Oper), os[i]? = some o → ∀ e ∈ o.after, Region.binds .any e = true → e.on < i := fun i o ho e he hb => by
    have h1 := List.all_eq_true.1 hlow (o, i) (List.mem_zipIdx_iff_getElem?.2 ho)
    have h2 := List.all_eq_true.1 h1 e (Array.mem_toList_iff.2 he)
    rw [hb] at h2
    exact Eq.mp Nat.blt_eq h2
  have hget : ∀ i, i < os.length → (os ++ tl)[i]? = os[i]? := fun i hi => List.getElem?_append_left hi
  have hrdy : ∀ (listed listed' : Array Bool), listed.size = (os ++ tl).length → listed'.size = os.length → (∀ i, i < os.length → listed'.getD i false = listed.getD i false) → ∀ i, i < os.length → (i ∈ Region.ready .any (os ++ tl).toArray listed ↔ i ∈ Region.ready .any os.toArray listed') := by
    intro listed listed' hs hs' hl i hi
    have hgt : listed'.getD i true = listed.getD i true := by
      have h1 := hl i hi
      have h2 : i < (os ++ tl).length := by simp; omega
      simp only [Array.getD, hs, hs', hi, h2, dite_true] at h1 ⊢
      exact h1
    have hon : ∀ (o : Oper), os[i]? = some o → ∀ e ∈ o.after, Region.binds .any e = true → listed'.getD e.on false = listed.getD e.on false := fun o ho e he hb => hl _ (by have := hlow' i o ho e he hb; omega)
    rw [mem_ready, mem_ready, hgt]
    constructor
    · rintro ⟨h1, o, ho, he⟩
      have ho' : os[i]? = some o := by rw [← hget i hi]; simpa using ho
      exact ⟨h1, o, by simpa using ho', fun e hee hb => by rw [hon o ho' e hee hb]; exact he e hee hb⟩
    · rintro ⟨h1, o, ho, he⟩
      have ho' : os[i]? = some o := by simpa using ho
      exact ⟨h1, o, by have := hget i hi; rw [ho'] at this; simpa using this, fun e hee hb => by rw [← hon o ho' e hee hb]; exact he e hee hb⟩
  -- all listed, or one is ready
  have hprog : ∀ (listed' : Array Bool), listed'.size = os.length → (∀ i, i < os.length → listed'.getD i false = true) ∨ ∃ i, i < os.length ∧ i ∈ Region.ready .any os.toArray listed' := by
    intro listed' hs'
    have key : ∀ k, k ≤ os.length → (∀ i, i < k → listed'.getD i false = true) ∨ ∃ i, i < os.length ∧ i ∈ Region.ready .any os.toArray listed' := by
      intro k
      induction k with
      | zero => intro _; exact .inl fun i hi => by omega
      | succ k ih =>
        intro hk
        rcases ih (by omega) with h | h
        · cases hb : listed'.getD k false with
          | true =>
            refine .inl fun i hi => ?_
            by_cases e : i = k
            · rw [e]; exact hb
            · exact h i (by omega)
          | false =>
            refine .inr ⟨k, by omega, mem_ready.2 ⟨?_, os[k]'(by omega), by simp, fun e he hbd => h _ (hlow' k _ (List.getElem?_eq_getElem (by omega)) e he hbd)⟩⟩
            have hk' : k < listed'.size := by omega
            simp only [Array.getD, hk', dite_true] at hb ⊢
            exact hb
        · exact .inr h
    exact key _ (Nat.le_refl _)
  have hdone : ∀ (fuel : Nat) (listed listed' : Array Bool) (a : Act) (w : World), listed.size = (os ++ tl).length → listed'.size = os.length → (∀ i, i < os.length → listed'.getD i false = listed.getD i false) → (∀ i, os.length ≤ i → i < (os ++ tl).length → listed.getD i false = false) → (∀ i, i < os.length → listed'.getD i false = true) → Q' .normal a w → wpAnyIn (FR n.ro) 0 P .any (os ++ tl).toArray Q (fuel + tl.length) listed a w := by
    intro fuel listed listed' a w hs hs' hl htl hall h
    refine tail_any tl os rfl ht _ listed a w hs (by omega) (fun i hi => ?_) (hn a w h)
    by_cases hi2 : i < os.length
    · rw [← hl i hi2, hall i hi2]; simp [hi2]
    · rw [htl i (by omega) hi]; simp [hi2]
  have hnr : ∀ (listed' : Array Bool), listed'.size = os.length → (∀ i, i < os.length → listed'.getD i false = true) → Region.ready .any os.toArray listed' = [] := by
    intro listed' hs' hall
    refine List.eq_nil_iff_forall_not_mem.2 fun i hi => ?_
    obtain ⟨h1, o, ho', _⟩ := mem_ready.1 hi
    have hlt : i < os.length := by simpa using (Array.getElem?_eq_some_iff.1 ho').1
    have h2 := hall i hlt
    have hlt' : i < listed'.size := by omega
    simp only [Array.getD, hlt', dite_true] at h1 h2
    rw [h2] at h1; cases h1
  -- an operation of the tail is not ready ahead of all others
  have htr : ∀ (listed : Array Bool), listed.size = (os ++ tl).length → (∃ i, i < os.length ∧ listed.getD i false = false) → ∀ i ∈ Region.ready .any (os ++ tl).toArray listed, i < os.length := by
    intro listed hs ⟨j, hj, hjf⟩ i hi
    refine Classical.byContradiction fun hge => ?_
    obtain ⟨_, o, ho, he⟩ := mem_ready.1 hi
    have ho' : (os ++ tl)[i]? = some o := by simpa using ho
    rw [List.getElem?_append_right (by omega)] at ho'
    have h2 := List.all_eq_true.1 ht (o, i) (by
      rw [List.mem_zipIdx_iff_le_and_getElem?_sub]
      exact ⟨by omega, ho'⟩)
    simp only [Bool.and_eq_true] at h2
    have h4 := List.all_eq_true.1 h2.1 j (by simp; omega)
    obtain ⟨e, he', hc⟩ := List.any_eq_true.1 h4
    simp only [Bool.and_eq_true, beq_iff_eq] at hc
    have h5 := he e (Array.mem_toList_iff.1 he') hc.1
    rw [hc.2, hjf] at h5
    cases h5
  intro fuel
  induction fuel with
  | zero =>
    intro listed listed' a w hs hs' hl htl h
    obtain ⟨h1, h2⟩ := h
    rcases hprog listed' hs' with hall | ⟨i, hi, hir⟩
    · exact hdone 0 listed listed' a w hs hs' hl htl hall h2
    · rw [h1] at hir; cases hir
  | succ fuel ih =>
    intro listed listed' a w hs hs' hl htl h
    obtain ⟨h1, h2⟩ := h
    by_cases hall : ∀ i, i < os.length → listed'.getD i false = true
    · exact hdone (fuel + 1) listed listed' a w hs hs' hl htl hall (h1 (hnr listed' hs' hall))
    have hex : ∃ i, i < os.length ∧ listed.getD i false = false := by
      refine Classical.byContradiction fun hc => hall fun i hi => ?_
      rw [hl i hi]
      cases hb : listed.getD i false with
      | true => rfl
      | false => exact absurd ⟨i, hi, hb⟩ hc
    rw [show fuel + 1 + tl.length = (fuel + tl.length) + 1 by omega]
    refine ⟨fun hr => ?_, fun i hi => ?_⟩
    · rcases hprog listed' hs' with h | ⟨i, hi, hir⟩
      · exact absurd h hall
      · have := (hrdy listed listed' hs hs' hl i hi).2 hir
        rw [hr] at this; cases this
    · have hil := htr listed hs hex i hi
      have h3 := h2 i ((hrdy listed listed' hs hs' hl i hil).1 hi)
      have ho : os[i]? = some os[i] := List.getElem?_eq_getElem hil
      unfold wpOpIn at h3 ⊢
      have e1 : os.toArray[i]? = some os[i] := by simp
      have e2 : (os ++ tl).toArray[i]? = some os[i] := by have := hget i hil; rw [ho] at this; simpa using this
      rw [e1] at h3
      rw [e2]
      have hw : Region.wanted os[i] (yielded (os ++ tl).toArray a.tmps) = Region.wanted os[i] (yielded os.toArray a.tmps) := by
        cases hg : os[i].guard with
        | none => simp [Region.wanted, hg]
        | some p =>
          obtain ⟨j, b⟩ := p
          have hj : j < os.length := by
            have := List.all_eq_true.1 hgd os[i] (List.getElem_mem hil)
            rw [hg] at this
            exact Eq.mp Nat.blt_eq this
          have hy : yielded (os ++ tl).toArray a.tmps j = yielded os.toArray a.tmps j := by
            unfold yielded
            have : (os ++ tl).toArray[j]? = os.toArray[j]? := by have := hget j hj; simpa using this
            rw [this]
          simp [Region.wanted, hg, hy]
      have hk : ∀ a w, wpAnyIn (FR n.ro) 0 P .any os.toArray Q' fuel (listed'.setIfInBounds i true) a w → wpAnyIn (FR n.ro) 0 P .any (os ++ tl).toArray Q (fuel + tl.length) (listed.setIfInBounds i true) a w := fun a w hh => by
        have hi3 : i < listed.size := by rw [hs]; simp; omega
        refine ih _ _ a w (by simpa using hs) (by simpa using hs') (fun j hj => ?_) (fun j hj hj2 => ?_) hh
        · rw [Yu (by omega), Yu hi3]
          by_cases e : i = j
          · subst e; simp
          · rw [if_neg e, if_neg e]; exact hl j hj
        · rw [Yu hi3, if_neg (by omega)]
          exact htl j hj hj2
      simp only at h3 ⊢
      rw [hw]
      split
      · rename_i hwt
        rw [if_pos hwt] at h3
        exact op_mono2 hk hq h3
      · rename_i hwt
        rw [if_neg hwt] at h3
        exact ⟨h3.1, hk _ _ h3.2⟩
/-- What is to be shown behind the operations that are drawn: the last ones, in their row. -/
def tlQ (P : Program) (n : Cx) (ops : Array Oper) (tl : List Oper) (Q : Post) : Post
  | .normal, D, fr, l => WpL P n D ops tl Q fr l
  | e, D, fr, l => Q e D fr l
/-- A region that draws its order, but for its last operations. -/
theorem Wp.drawE {id : Nat} {os : List Oper} (hm : P.follows .mixedOrders = true) (m : Nat) (ds0 : List Nat) (ja da : Nat) (z : List Value) (T : Nat) (ss : List (Nat × Bool)) (ht : tailOk (os.take m).length (os.drop m) = true) (hlo : lowOk (os.take m) = true) (hds : (os.take m).filterMap (·.dst) = ds0) (hok : okG (os.take m) ja da ss = true)
    (hal : ∀ o, (os.take m)[ja]? = some o → WpL P n D (os.take m).toArray [o] (fun e D' fr' l' => e = .normal ∧ D' = D ∧ ∃ g, lk fr' da = some (.pointer (some ⟨g, 0, none⟩)) ∧ Ent l' [QA g z T]) [] [])
    (go : GoR P n D (os.take m).toArray (os.take m) (Yt ds0 fr) fB ja da z T (tlQ P n os.toArray (os.drop m) Q) ss 0 [] [] (Yt ds0 fr) l) : Wp P n D (.region id os.toArray true) Q fr l := fun a w U hh hs => by
  subst hds
  have h := drawG_go ja da z T ss hok hal go a w U hh hs
  refine wpIn_region_any hm ?_
  have hos : os = os.take m ++ os.drop m := (List.take_append_drop _ _).symm
  generalize hQ : tlQ P n os.toArray (os.drop m) Q = Q' at h
  generalize os.take m = o1 at *
  generalize os.drop m = tl at *
  subst hos
  have hsz : (o1 ++ tl).toArray.size = o1.toArray.size + tl.length := by simp
  rw [hsz]
  refine any_tail ht hlo (Q' := After n Q' U w) (fun e a w hne hq => ?_) (fun a w1 hq => ?_) _ _ _ a _ (by simp) (by simp) (fun i hi => ?_) (fun i _ _ => ?_) h
  · obtain ⟨D', fr', l', q, hh', ho⟩ := hq
    subst hQ
    refine ⟨D', fr', l', ?_, hh', ho⟩
    cases e <;> first | exact absurd rfl hne | exact q
  · obtain ⟨D', fr', l', q, hh', ho⟩ := hq
    subst hQ
    exact WpL.go q hh' ho
  · rw [Yi, Yi]
  · exact Yi
theorem Wp.drawEN {id : Nat} {os : List Oper} (hm : P.follows .mixedOrders = true) (m : Nat) (ds0 : List Nat) (ss : List (Nat × Bool)) (ht : tailOk (os.take m).length (os.drop m) = true) (hlo : lowOk (os.take m) = true) (hds : (os.take m).filterMap (·.dst) = ds0) (hok : okG (os.take m) (os.take m).length 0 ss = true)
    (go : GoR P n D (os.take m).toArray (os.take m) (Yt ds0 fr) fB (os.take m).length 0 [] 0 (tlQ P n os.toArray (os.drop m) Q) ss 0 [] [] (Yt ds0 fr) l) : Wp P n D (.region id os.toArray true) Q fr l :=
  Wp.drawE hm m ds0 (os.take m).length 0 [] 0 ss ht hlo hds hok (fun o ho => by simp at ho) go
end
end Go.Proofs.YtggamdlpiejbiaaGreat
namespace Go.Proofs.YtggamdlpiejbiaaGreat
open Go.RowKit Go.Shelf

structure Img where
  (c m w h : Int) (px : List Int)
def im0 : Img := ⟨0, 0, 0, 0, []⟩
def Xy (st : Img × List Img) (x : Evt) : Img × List Img :=
  if x.k = 1 then (⟨x.c, x.m, x.w, x.h, []⟩, st.2) else if x.k = 2 then (⟨st.1.c, st.1.m, st.1.w, st.1.h, st.1.px ++ x.row⟩, st.2) else if x.k = 3 then (st.1, st.2 ++ [st.1]) else st
def imgsOf (es : List Evt) : List Img := (es.foldl Xy (im0, [])).2
theorem im_rows : ∀ (rows : List (Evt × Int)) (m : Img) (L : List Img), (∀ x ∈ rows, x.1.k = 2) → (rows.map (·.1)).foldl Xy (m, L) = (⟨m.c, m.m, m.w, m.h, m.px ++ rows.flatMap fun x => x.1.row⟩, L)
  | [], m, L, _ => by simp
  | x :: rows, m, L, h => by
    have hx := h x (by simp)
    have e : Xy (m, L) x.1 = (⟨m.c, m.m, m.w, m.h, m.px ++ x.1.row⟩, L) := by unfold Xy; rw [if_neg (by omega), if_pos hx]
    rw [List.map_cons, List.foldl_cons, e, im_rows rows _ L fun y hy => h y (by simp [hy])]
    simp
def imOf (h : HS) (out : List (Evt × Int)) : Img := ⟨QW h.K, h.M, h.W, h.H, out.flatMap fun x => x.1.row⟩
/-- An image that is done. -/
theorem im_body {h : HS} {es out rows : List (Evt × Int)} {t n : Int} (ho : out = rows ++ [dnE t]) (hr : ∀ x ∈ rows, x.1.k = 2) : imgsOf ((es ++ (begE h, n) :: out).map (·.1)) = imgsOf (es.map (·.1)) ++ [imOf h out] := by
  subst ho
  unfold imgsOf imOf
  rw [List.map_append, List.foldl_append, List.map_cons, List.foldl_cons]
  generalize (es.map (·.1)).foldl Xy (im0, []) = st
  obtain ⟨m, L⟩ := st
  have e : Xy (m, L) (begE h, n).1 = (⟨QW h.K, h.M, h.W, h.H, []⟩, L) := rfl
  rw [e, List.map_append, List.foldl_append, im_rows rows _ L hr]
  simp [Xy, dnE]
theorem hdRun_pos (l0 l1 l2 : Int) (h : HS) (c : Int) (bs : List Int) (told : Int) : told + 1 ≤ (Xl l0 l1 l2 h (c :: bs) told).2 := by
  rw [Xl]
  split
  · exact Int.le_refl _
  · have : ∀ (bs : List Int) (h : HS) (n : Int), n ≤ (Xl l0 l1 l2 h bs n).2 := by
      intro bs
      induction bs with
      | nil => intro h n; exact Int.le_refl _
      | cons c bs ih =>
        intro h n
        rw [Xl]
        split
        · simp only; omega
        · have := ih (Q1 l0 l1 l2 h c) (n + 1)
          omega
    exact this _ _ _
theorem hdRun_shift (l0 l1 l2 : Int) : ∀ (bs : List Int) (h : HS) (n t : Int), Xl l0 l1 l2 h bs (n + t) = ((Xl l0 l1 l2 h bs n).1, (Xl l0 l1 l2 h bs n).2 + t)
  | [], h, n, t => rfl
  | c :: bs, h, n, t => by
    rw [Xl, Xl]
    split
    · simp only; congr 1; omega
    · have := hdRun_shift l0 l1 l2 bs (Q1 l0 l1 l2 h c) (n + 1) t
      rw [show n + 1 + t = n + t + 1 by omega] at this
      exact this
/-- What a head's parse says of the reader. -/
theorem run_parse {l0 l1 l2 : Int} (hL : LimO l0 l1 l2) {bs : List Int} {at_ : Nat} {imgs : Int} {hd : Option HS} {c : Int} {r : List Int} (hr : bs.drop at_ = c :: r) (hb : Q6 c = false) {K W H M n e : Int} (hP : ((K, W, H, M), n, e) = hdP l0 l1 l2 (bs.drop at_)) :
    (1 ≤ n ∧ at_ + n ≤ bs.length ∧ (e = 0 ∨ e = 6 ∨ (2 ≤ e ∧ e ≤ 4))) ∧
    (e = 6 → at_ + n = bs.length ∧ ∃ h', h'.e = 9 ∧ QL l0 l1 l2 ⟨hd, 0, .no, at_, imgs, false, 0⟩ (bs.drop at_) = (⟨some h', 1, .no, bs.length, imgs, false, 0⟩, [])) ∧
    (e ≠ 0 → e ≠ 6 → ∃ h', QL l0 l1 l2 ⟨hd, 0, .no, at_, imgs, false, 0⟩ (bs.drop at_) = (⟨some h', 1, .no, at_ + n, imgs, false, e⟩, [])) ∧
    (e = 0 → ∃ h', YC h' ∧ h'.K = K ∧ h'.W = W ∧ h'.H = H ∧ h'.M = M ∧ QL l0 l1 l2 ⟨hd, 0, .no, at_, imgs, false, 0⟩ (bs.drop at_) = Ye [(begE h', at_ + n)] (QL l0 l1 l2 ⟨some h', 2, bd0 h', at_ + n, imgs, false, 0⟩ (bs.drop (at_ + n).toNat))) := by
  have hlen : (bs.drop at_).length = bs.length - at_ := List.length_drop
  have hl2 : 1 ≤ (bs.drop at_).length := by rw [hr]; simp
  have hrun := run_head l0 l1 l2 hL imgs (bs.drop at_) hd0 at_ (hdJ0 l0 l1 l2)
  have hfirst := run_first l0 l1 l2 (hd := hd) (told := at_) (imgs := imgs) (bs := r) hb
  rw [← hr] at hfirst
  have hsh := hdRun_shift l0 l1 l2 (bs.drop at_) hd0 0 at_
  rw [Int.zero_add] at hsh
  have hpos := hdRun_pos l0 l1 l2 hd0 c r 0
  rw [← hr] at hpos
  rw [hdP_fin] at hP
  rw [hsh] at hrun
  generalize Xl l0 l1 l2 hd0 (bs.drop at_) 0 = q at hP hrun hpos
  obtain ⟨h', m⟩ := q
  dsimp only at hP hrun hpos
  rw [hfirst]
  obtain ⟨hrun, hr1, hr2⟩ := hrun
  unfold hdFin at hP
  dsimp only at hP
  rcases hrun with ⟨g1, g2, g3⟩ | ⟨g1, g2, g3, g4⟩ | ⟨g1, g2⟩
  · rw [if_neg (by omega), if_neg (by omega)] at hP
    cases hP
    refine ⟨⟨by omega, by omega, .inr (.inl rfl)⟩, fun _ => ⟨by omega, h', g2, ?_⟩, fun _ q => absurd rfl q, fun q => absurd q (by decide)⟩
    rw [g3, show (at_ : Int) + (((bs.drop at_).length : Nat) : Int) = bs.length by omega]
  · rw [if_neg (by omega), if_pos g1] at hP
    cases hP
    refine ⟨⟨by omega, by omega, .inr (.inr ⟨g2, g3⟩)⟩, fun q => by omega, fun _ _ => ⟨h', ?_⟩, fun q => by omega⟩
    rw [g4, Int.add_comm]
  · rw [if_pos g1.1] at hP
    cases hP
    refine ⟨⟨by omega, by omega, .inl rfl⟩, fun q => absurd q (by decide), fun q => absurd rfl q, fun _ => ⟨h', g1, rfl, rfl, rfl, rfl, ?_⟩⟩
    rw [g2, List.drop_drop, show (n + (at_ : Int) : Int) = at_ + n by omega, show at_ + ((at_ : Int) + n - at_).toNat = ((at_ : Int) + n).toNat by omega]
theorem psEnd_ah {hd : Option HS} {told imgs : Int} (h : ∀ x, hd = some x → x.e = 0) : XV ⟨hd, 0, .no, told, imgs, false, 0⟩ = (⟨hd, 0, .no, told, imgs, true, 0⟩, []) := by
  refine (if_neg (by simp)).trans (if_neg (fun q => ?_))
  obtain ⟨q1, q2⟩ := q
  cases hd with
  | none => cases q1
  | some x => have := h x rfl; simp [this] at q2
def imsO (es : List (Evt × Int)) : List Img := imgsOf (es.map (·.1))
theorem imsO_body {h : HS} {es out rows : List (Evt × Int)} {t n : Int} (ho : out = rows ++ [dnE t]) (hr : ∀ x ∈ rows, x.1.k = 2) : imsO (es ++ [(begE h, n)] ++ out) = imsO es ++ [imOf h out] := by
  unfold imsO
  rw [show es ++ [(begE h, n)] ++ out = es ++ (begE h, n) :: out by simp]
  exact im_body ho hr
end Go.Proofs.YtggamdlpiejbiaaGreat
namespace Go.Proofs.YtggamdlpiejbiaaGreat
open Go.RowKit Go.Shelf


def imC (x : Img) (a : Option Addr) (c : Nat) : List Value := [.int .i64 x.c, .int .i64 x.m, .int .i64 x.w, .int .i64 x.h, .slice a x.px.length c]
def imR (a : Option Addr) (c : Nat) (es : List Img) : HP := rcR 71 5 92 imC Img.px a c es
end Go.Proofs.YtggamdlpiejbiaaGreat
namespace Go.Proofs.YtggamdlpiejbiaaGreat
open Go.RowKit Go.Shelf


theorem gd_step2 {xs : List Int} {f : Int → Int} {n k : Nat} (h : k < xs.length) (hn : k < n) : (QY ((xs.take k).map f) ++ List.replicate (n - k) (Value.int .i64 0)).set (0 + k * 1) (.int .i64 (f xs[k])) = QY ((xs.take (k + 1)).map f) ++ List.replicate (n - (k + 1)) (Value.int .i64 0) := by
  rw [Xd xs h, List.map_append, List.map_cons, List.map_nil, ← Yz]
  have hl : (QY ((xs.take k).map f)).length = k := by rw [QT, List.length_map, List.length_take]; omega
  rw [List.set_append_right _ _ (by omega), hl, show 0 + k * 1 - k = 0 by omega, show n - k = (n - (k + 1)) + 1 by omega, List.replicate_succ, List.set_cons_zero, List.append_assoc]
  rfl

theorem GoodPx3_spec (As : List HP) (a : Option Addr) (c : Nat) (xs : List Int) (ch mx : Int) (hA : RdsL As a (QY xs)) (hr : ∀ x ∈ xs, -9223372036854775808 ≤ x ∧ x < 9223372036854775808) (hl : ch ≤ (xs.length : Int)) (hc : ch = 1 ∨ ch = 3) (hm : 1 ≤ mx) (hm2 : mx ≤ 65535) : Fn Tryz.prog 72 #[.slice a xs.length c, .agg #[.int .i64 ch, .int .i64 mx]] As (fun v l => v = .int .u64 (Xx ((xs.take ch.toNat).map (fun x => QX x (mx + 1)))).1 ∧ l = As) := by
 generalize hys : (xs.take ch.toNat).map (fun x => QX x (mx + 1)) = ys
 have hyl : ys.length = ch.toNat := by rw [← hys, List.length_map, List.length_take]; omega
 refine Qk (vs := [.slice a xs.length c, .agg #[.int .i64 ch, .int .i64 mx]]) Tryz.func72 rfl Tryz.ntmps72 rfl (Qb (Qa (Q9 rfl rfl rfl ?_)))
 intro g1
 refine Qe rfl rfl (WpL.nil (Qb (Qa (Qj (o2 := 0) rfl rfl rfl (Qo rfl rfl (by rfl) ?_)))))
 refine s_mkF rfl rfl (by omega) (by omega) (by omega) rfl ?_
 intro gO
 refine Qe rfl rfl (WpL.nil (Qb (Qb (Qa (Qe rfl rfl (WpL.nil (Wp.block ?_)))))))
 refine Wp.loopD (σ := Nat) (fun k => k ≤ ch.toNat) [6, 12, 13, 14, 15, 16, 17, 18, 19, 20, 21, 22, 23, 24, 25, 26, 27, 28, 29, 30, 31, 32, 33, 34] (fun k => [(6, .int .i64 (k : Int))]) (fun k => (QA gO (QY ((xs.take k).map (fun x => QX x (mx + 1))) ++ List.replicate (ch.toNat - k) (Value.int .i64 0)) 3) :: (QA g1 [.int .i64 ch, .int .i64 mx] 48) :: As) (fun k => ch.toNat - k) 0 ?_ (by repeat (first | exact FrLe.nil | refine FrLe.cons rfl ?_)) ?_ ?_
 ·exact Nat.zero_le _
 ·rw [List.take_zero, Nat.sub_zero]
  exact Ent.refl _
 ·rintro k hk
  refine Qb (Qb (Qa (Qc rfl rfl (Qc rfl rfl (QC rfl rfl (Q7 rfl rfl rfl (Qc rfl rfl (QK rfl rfl rfl (fun hg1 => ?_) (fun hg1 => ?_)))))))))
  ·have hg1 := of_decide_eq_true hg1
   refine Qc rfl rfl (Qf rfl rfl (Qc rfl rfl (Qf rfl rfl (QC rfl rfl (Qf rfl rfl (Q7 rfl rfl rfl (Qt rfl rfl rfl (WpL.nil (Ql rfl (fun h1 => ?_) (fun h1 => ?_))))))))))
   ·have hlt : k < xs.length := by omega
    have hlc : k < ch.toNat := by omega
    refine Wp.skip (Qb (Wp.block ?_))
    apply Xs (fB := []) mixed [(11, false)] (by kernel_rfl)
    apply Xk [⟨0, 24, _, [], false⟩, ⟨1, 25, _, [], false⟩, ⟨2, 26, _, [], false⟩, ⟨3, 27, _, [], false⟩, ⟨4, 28, _, [2, 3], false⟩, ⟨5, 29, _, [4], false⟩, ⟨6, 30, _, [], false⟩, ⟨7, 31, _, [6], false⟩, ⟨8, 32, _, [7], false⟩, ⟨9, 33, _, [5, 8], false⟩, ⟨10, 34, _, [0, 1, 2, 3, 4, 5, 6, 7, 8, 9], false⟩] [] [0, 1, 2, 3, 4, 5, 6, 7, 8, 9, 10] [] (.inr rfl) rfl rfl rfl (by kernel_rfl) rfl rfl rfl
    ·refine AllF.cons rfl rfl rfl rfl ?_ ?_
     ·exact Qc rfl rfl (Qm rfl)
     refine AllF.cons rfl rfl rfl rfl ?_ ?_
     ·exact Qc rfl rfl (Qm rfl)
     refine AllF.cons rfl rfl rfl rfl ?_ ?_
     ·exact Qc rfl rfl (Qm rfl)
     refine AllF.cons rfl rfl rfl rfl ?_ ?_
     ·exact Qc rfl rfl (Qm rfl)
     refine AllF.cons rfl rfl rfl rfl ?_ ?_
     ·refine Q4 k rfl rfl rfl hA (by (repeat (first | exact Ent.refl _ | refine Ent.drop ?_))) rfl (by omega) (by rw [QT]; omega) ?_
      exact Qm rfl
     refine AllF.cons rfl rfl rfl rfl ?_ ?_
     ·refine Q5 rfl rfl hA (by (repeat (first | exact Ent.refl _ | refine Ent.drop ?_))) (Xi xs hlt) ?_
      exact Qm rfl
     refine AllF.cons rfl rfl rfl rfl ?_ ?_
     ·exact Qj (o2 := 1) rfl rfl rfl (Qm rfl)
     refine AllF.cons rfl rfl rfl rfl ?_ ?_
     ·refine Qo rfl rfl (by rfl) ?_
      exact Qm rfl
     refine AllF.cons rfl rfl rfl rfl ?_ ?_
     ·refine QD rfl rfl rfl (Qu (by omega) (by omega)) ?_
      exact Qm rfl
     refine AllF.cons rfl rfl rfl rfl ?_ ?_
     ·refine Qh rfl rfl (by repeat' constructor) (Ys _ _ (hr _ (List.getElem_mem hlt)).1 (hr _ (List.getElem_mem hlt)).2 (by omega)) ?_
      rintro _ _ ⟨rfl, rfl⟩
      simp only [Qr]
      exact WpL.nil ⟨rfl, rfl, rfl, by exact Ent.refl _⟩
     refine AllF.cons rfl rfl rfl rfl ?_ ?_
     ·refine s_ixA (k := k) rfl rfl rfl (by omega) ?_
      exact Qm rfl
     exact AllF.nil
    ·refine s_stk rfl rfl rfl (by simp [QT]; omega) ?_
     rw [gd_step2 hlt hlc]
     refine WpL.nil ⟨rfl, rfl, ?_⟩
     apply GoR.nil [] (.inr rfl) rfl rfl
     ·exact AllF.nil
     ·refine Qa (Qc rfl rfl (QD rfl rfl rfl (Qu (by omega) (by omega)) ?_))
      refine Qe rfl rfl (WpL.nil (Qv (k + 1) ?_ ?_ (by ((repeat (first | exact Top.refl | refine Top.push rfl ?_)); done)) (by repeat (first | exact FrLe.nil | refine FrLe.cons rfl ?_)) ?_))
      ·omega
      ·omega
      ·exact Ent.refl _
   ·refine QM (Qb (Qa (Qc rfl rfl ?_)))
    have hke : k = ch.toNat := by omega
    rw [show QY ((xs.take k).map (fun x => QX x (mx + 1))) ++ List.replicate (ch.toNat - k) (Value.int .i64 0) = QY ys by rw [hke, Nat.sub_self, hys]; simp, ← hyl]
    refine Qh rfl rfl (by repeat' constructor) (rPack_spec [_] _ _ ys (RdsL.blk (by rw [List.drop_zero, QT, ← QT, List.take_length])) (by omega)) ?_
    rintro _ _ ⟨rfl, rfl⟩
    simp only [Qr]
    refine Qc rfl rfl (QH rfl rfl rfl (QH rfl rfl rfl (Qe rfl rfl (Qe rfl rfl (WpL.nil (Qb (Qa (Qc rfl rfl (Qe rfl rfl (WpL.nil (Qi ?_)))))))))))
    apply RetQ.mk
    ·exact (Res.one rfl rfl)
    ·exact ⟨rfl, rfl⟩
    ·(repeat (first | exact Ent.refl _ | refine Ent.drop ?_))
  ·have hg1 := of_decide_eq_false hg1
   refine Qd rfl rfl rfl (by decide) (Qd rfl rfl rfl (by decide) (Qd rfl rfl rfl (by decide) (Qs rfl rfl rfl (WpL.nil (QZ rfl (QM (Qb (Qa (Qc rfl rfl ?_)))))))))
   have hke : k = ch.toNat := by omega
   rw [show QY ((xs.take k).map (fun x => QX x (mx + 1))) ++ List.replicate (ch.toNat - k) (Value.int .i64 0) = QY ys by rw [hke, Nat.sub_self, hys]; simp, ← hyl]
   refine Qh rfl rfl (by repeat' constructor) (rPack_spec [_] _ _ ys (RdsL.blk (by rw [List.drop_zero, QT, ← QT, List.take_length])) (by omega)) ?_
   rintro _ _ ⟨rfl, rfl⟩
   simp only [Qr]
   refine Qc rfl rfl (QH rfl rfl rfl (QH rfl rfl rfl (Qe rfl rfl (Qe rfl rfl (WpL.nil (Qb (Qa (Qc rfl rfl (Qe rfl rfl (WpL.nil (Qi ?_)))))))))))
   apply RetQ.mk
   ·exact (Res.one rfl rfl)
   ·exact ⟨rfl, rfl⟩
   ·(repeat (first | exact Ent.refl _ | refine Ent.drop ?_))

end Go.Proofs.YtggamdlpiejbiaaGreat
namespace Go.Proofs.YtggamdlpiejbiaaGreat
open Go.RowKit Go.Shelf


def selM (mx : Int) : Int := if mx = 0 ∨ mx = 1 then 1 else if mx = 2 then 2 else if mx = 3 then 255 else 300
theorem selM_at {mx : Int} (h0 : 0 ≤ mx) (h1 : mx < 5) : ([Value.int .i64 1, .int .i64 1, .int .i64 2, .int .i64 255, .int .i64 300])[mx.toNat]? = some (.int .i64 (selM mx)) := by
  obtain rfl | rfl | rfl | rfl | rfl : mx = 0 ∨ mx = 1 ∨ mx = 2 ∨ mx = 3 ∨ mx = 4 := by omega
  all_goals rfl
theorem selM_bd (mx : Int) : 1 ≤ selM mx ∧ selM mx ≤ 300 := by
  unfold selM
  repeat' split
  all_goals omega
/-- What is made of any numbers: an image that may be. -/
def YG (most : Int) (m : Img) : Prop := (m.c = 1 ∨ m.c = 3) ∧ (1 ≤ m.m ∧ m.m ≤ 65535) ∧ (1 ≤ m.w ∧ m.w ≤ most) ∧ (1 ≤ m.h ∧ m.h ≤ most) ∧ (m.px.length : Int) = m.w * m.h ∧ ∀ p ∈ m.px, Can m.c m.m p ∧ 0 ≤ p ∧ p < 18446744073709551616
structure GdX where
  (k : Nat) (out : List Int) (a : Option Addr) (c : Nat)

theorem rForm_spec (three : Bool) (mx w h : Int) (ga : Option Addr) (gc gn : Nat) (hmx : -9223372036854775808 ≤ mx ∧ mx < 9223372036854775808) (_hgw : -9223372036854775808 ≤ w ∧ w < 9223372036854775808) (_hgh : -9223372036854775808 ≤ h ∧ h < 9223372036854775808) : Fn Tryz.prog 71 #[.agg #[.bool three, .int .i64 mx, .int .i64 w, .int .i64 h, .slice ga gn gc]] [] (fun v l => ∃ C M, (C = 1 ∨ C = 3) ∧ (1 ≤ M ∧ M ≤ 65535) ∧ v = .agg #[.int .i64 C, .int .i64 M] ∧ l = []) := by
 have hab := YN (x := mx) (m := 65535) (by omega)
 have hsm := selM_bd mx
 refine Qk (vs := [.agg #[.bool three, .int .i64 mx, .int .i64 w, .int .i64 h, .slice ga gn gc]]) Tryz.func71 rfl Tryz.ntmps71 rfl (Qb (Qa (Q9 rfl rfl rfl ?_)))
 intro g1
 refine YE rfl ?_
 intro g2
 refine WpL.nil (Qb (Qa ?_))
 refine s_bs [Value.int .i64 1, .int .i64 1, .int .i64 2, .int .i64 255, .int .i64 300] rfl rfl rfl (by intro v hv; simp only [List.mem_cons, List.not_mem_nil, or_false] at hv; rcases hv with rfl | rfl | rfl | rfl | rfl <;> rfl) (by decide) (fun _ _ => rfl) ?_
 intro g5
 refine Qe rfl rfl (WpL.nil (Qb (Qa (Qj (o2 := 1) rfl rfl rfl (Qo rfl rfl (by rfl) ?_)))))
 refine Qh rfl rfl (by repeat' constructor) (Ys _ _ hmx.1 hmx.2 (by omega)) ?_
 rintro _ _ ⟨rfl, rfl⟩
 simp only [Qr]
 refine QD rfl rfl rfl (Qu (by omega) (by omega)) ?_
 refine YI rfl rfl ?_
 refine YE rfl ?_
 intro g3
 refine XL rfl rfl rfl (by rfl) rfl ?_
 refine WpL.nil (Qb (Qb (Qa (Qj (o2 := 1) rfl rfl rfl (Qo rfl rfl (by rfl) ?_)))))
 refine s_ge rfl rfl rfl (Qc rfl rfl (QK rfl rfl rfl (fun hg1 => ?_) (fun hg1 => ?_)))
 ·have hg1 := of_decide_eq_true hg1
  refine Qj (o2 := 1) rfl rfl rfl (Qf rfl rfl (Qo rfl rfl (by rfl) ?_))
  refine Qf rfl rfl (Q7 rfl rfl rfl (Qt rfl rfl rfl (WpL.nil (Ql rfl (fun h0 => ?_) (fun h0 => ?_)))))
  ·refine Qa (Qc rfl rfl (Qj (o2 := 1) rfl rfl rfl (Qo rfl rfl (by rfl) ?_)))
   refine Q4 mx.toNat rfl rfl rfl (RdsL.blk (o := 0) (xs := [Value.int .i64 1, .int .i64 1, .int .i64 2, .int .i64 255, .int .i64 300]) rfl) (by exact Take.ent' (by repeat' constructor)) (by omega) (by omega) (by simp only [List.length_cons, List.length_nil]; omega) ?_
   refine Q5 rfl rfl (RdsL.blk (o := 0) (xs := [Value.int .i64 1, .int .i64 1, .int .i64 2, .int .i64 255, .int .i64 300]) rfl) (by exact Take.ent' (by repeat' constructor)) (selM_at (by omega) (by omega)) ?_
   refine Qj (o2 := 1) rfl rfl rfl (Q3 rfl rfl rfl (WpL.nil (Qb (Qb (Qa (Qj (o2 := 0) rfl rfl rfl (Qo rfl rfl (by rfl) ?_)))))))
   refine WpL.nil (X5 rfl (fun h1 => ?_) (fun h1 => ?_))
   ·refine Qa (Qj (o2 := 0) rfl rfl rfl (Q3 rfl rfl rfl (WpL.nil (Qb (Qa ?_)))))
    refine QI (vs := [_, _]) rfl rfl rfl (by rfl) ?_
    refine XL rfl rfl rfl (by rfl) rfl ?_
    refine WpL.nil (Qi ?_)
    apply RetQ.mk
    ·exact (XO rfl rfl (by rfl))
    ·exact ⟨3, _, .inr rfl, by omega, rfl, rfl⟩
    ·exact Ent.nil _
   ·refine Wp.skip (Qb (Qa ?_))
    refine QI (vs := [_, _]) rfl rfl rfl (by rfl) ?_
    refine XL rfl rfl rfl (by rfl) rfl ?_
    refine WpL.nil (Qi ?_)
    apply RetQ.mk
    ·exact (XO rfl rfl (by rfl))
    ·exact ⟨1, _, .inl rfl, by omega, rfl, rfl⟩
    ·exact Ent.nil _
  ·refine Wp.skip (Qb (Qb (Qa (Qj (o2 := 0) rfl rfl rfl (Qo rfl rfl (by rfl) ?_)))))
   refine WpL.nil (X5 rfl (fun h1 => ?_) (fun h1 => ?_))
   ·refine Qa (Qj (o2 := 0) rfl rfl rfl (Q3 rfl rfl rfl (WpL.nil (Qb (Qa ?_)))))
    refine QI (vs := [_, _]) rfl rfl rfl (by rfl) ?_
    refine XL rfl rfl rfl (by rfl) rfl ?_
    refine WpL.nil (Qi ?_)
    apply RetQ.mk
    ·exact (XO rfl rfl (by rfl))
    ·exact ⟨3, _, .inr rfl, by omega, rfl, rfl⟩
    ·exact Ent.nil _
   ·refine Wp.skip (Qb (Qa ?_))
    refine QI (vs := [_, _]) rfl rfl rfl (by rfl) ?_
    refine XL rfl rfl rfl (by rfl) rfl ?_
    refine WpL.nil (Qi ?_)
    apply RetQ.mk
    ·exact (XO rfl rfl (by rfl))
    ·exact ⟨1, _, .inl rfl, by omega, rfl, rfl⟩
    ·exact Ent.nil _
 ·have hg1 := of_decide_eq_false hg1
  refine Qd rfl rfl rfl (by decide) (Qd rfl rfl rfl (by decide) (Qs rfl rfl rfl (WpL.nil (QZ rfl (Wp.skip (Qb (Qb (Qa (Qj (o2 := 0) rfl rfl rfl (Qo rfl rfl (by rfl) ?_))))))))))
  refine WpL.nil (X5 rfl (fun h1 => ?_) (fun h1 => ?_))
  ·refine Qa (Qj (o2 := 0) rfl rfl rfl (Q3 rfl rfl rfl (WpL.nil (Qb (Qa ?_)))))
   refine QI (vs := [_, _]) rfl rfl rfl (by rfl) ?_
   refine XL rfl rfl rfl (by rfl) rfl ?_
   refine WpL.nil (Qi ?_)
   apply RetQ.mk
   ·exact (XO rfl rfl (by rfl))
   ·exact ⟨3, _, .inr rfl, by omega, rfl, rfl⟩
   ·exact Ent.nil _
  ·refine Wp.skip (Qb (Qa ?_))
   refine QI (vs := [_, _]) rfl rfl rfl (by rfl) ?_
   refine XL rfl rfl rfl (by rfl) rfl ?_
   refine WpL.nil (Qi ?_)
   apply RetQ.mk
   ·exact (XO rfl rfl (by rfl))
   ·exact ⟨1, _, .inl rfl, by omega, rfl, rfl⟩
   ·exact Ent.nil _


theorem can_good {C M : Int} {xs : List Int} (hC : C = 1 ∨ C = 3) (hM : 1 ≤ M ∧ M ≤ 65535) (hl : (xs.length : Int) = C) (hx : ∀ x ∈ xs, 0 ≤ x ∧ x ≤ M) : Can C M (Xx xs).1 ∧ 0 ≤ (Xx xs).1 ∧ (Xx xs).1 < 18446744073709551616 := by
  have hs : ∀ n ∈ xs, Z7 n := fun n hn => by have := hx n hn; unfold Z7; omega
  have hu : Qn (Xx xs).1 = xs := unpack_pack (by omega) hs
  exact ⟨⟨by rw [hu]; exact hl, by rw [hu], by rw [hu]; exact hx⟩, pack_bd (by omega) hs⟩

end Go.Proofs.YtggamdlpiejbiaaGreat
