/- Walks and plain laws, a part of the proof of ImageTurns: every input that the law's guards let in, no condition beside. -/
import Derived.Test.YtggamdlpiejbiaaGreatM17
namespace Go.Proofs.YtggamdlpiejbiaaGreat
open Go.RowKit Go.Shelf

def Xi (l0 l1 l2 : Int) : PS → List Int → PS × List (Evt × Int)
  | s, [] => (s, [])
  | s, c :: bs => ((Xi l0 l1 l2 (Yx l0 l1 l2 s c).1 bs).1, ((Yx l0 l1 l2 s c).2.map fun x => (x, (Yx l0 l1 l2 s c).1.told)) ++ (Xi l0 l1 l2 (Yx l0 l1 l2 s c).1 bs).2)
def psFin (fin : Bool) (q : PS × List (Evt × Int)) : PS × List (Evt × Int) := if fin = true then ((psEnd q.1).1, q.2 ++ (psEnd q.1).2.map fun x => (x, q.1.told + 1)) else q
def Zu (a : List (Evt × Int)) (q : PS × List (Evt × Int)) : PS × List (Evt × Int) := (q.1, a ++ q.2)
theorem papp_papp (a b : List (Evt × Int)) (q : PS × List (Evt × Int)) : Zu a (Zu b q) = Zu (a ++ b) q := by simp [Zu]
theorem papp_nil (q : PS × List (Evt × Int)) : Zu [] q = q := rfl
theorem Y3 (l0 l1 l2 : Int) (s : PS) (c : Int) (bs : List Int) : Xi l0 l1 l2 s (c :: bs) = Zu ((Yx l0 l1 l2 s c).2.map fun x => (x, (Yx l0 l1 l2 s c).1.told)) (Xi l0 l1 l2 (Yx l0 l1 l2 s c).1 bs) := rfl
theorem psPut_ok (l0 l1 l2 : Int) {s : PS} {c : Int} (h : s.over = false) (he : s.e = 0) : Yx l0 l1 l2 s c = psStep l0 l1 l2 { s with told := s.told + 1 } c := if_neg (by rw [h, he]; simp)
theorem psPut_dead (l0 l1 l2 : Int) {s : PS} {c : Int} (h : s.over = true ∨ s.e ≠ 0) : Yx l0 l1 l2 s c = (s, []) := if_pos h
theorem psRun_dead (l0 l1 l2 : Int) : ∀ (bs : List Int) {s : PS}, (s.over = true ∨ s.e ≠ 0) → Xi l0 l1 l2 s bs = (s, [])
  | [], _, _ => rfl
  | c :: bs, s, h => by rw [Y3, psPut_dead _ _ _ h, psRun_dead l0 l1 l2 bs h]; rfl
theorem psFin_dead {fin : Bool} {s : PS} {a : List (Evt × Int)} (h : s.over = true ∨ s.e ≠ 0) : psFin fin (s, a) = (s, a) := by
  unfold psFin
  split
  · have : psEnd s = (s, []) := if_pos h
    simp [this]
  · rfl
/-- What a raster's reading tells: its events, how many bytes of all were told behind it, the error (9: it goes on). -/
def BodyOut (l0 l1 l2 : Int) (fin : Bool) (h : HS) (bd : Bd) (bs : List Int) (at0 imgs : Int) (out : List (Evt × Int)) (to f : Int) : Prop :=
  (f = 0 → psFin fin (Xi l0 l1 l2 ⟨some h, 2, bd, at0, imgs, false, 0⟩ (bs.drop at0.toNat)) = Zu out (psFin fin (Xi l0 l1 l2 ⟨some h, 0, .no, to, imgs + 1, false, 0⟩ (bs.drop to.toNat)))) ∧
  (f ≠ 0 → ∃ s', psFin fin (Xi l0 l1 l2 ⟨some h, 2, bd, at0, imgs, false, 0⟩ (bs.drop at0.toNat)) = (s', out) ∧ s'.e = (if f = 9 then 0 else f) ∧ s'.told = to ∧ s'.imgs = imgs)

end Go.Proofs.YtggamdlpiejbiaaGreat
namespace Go.Proofs.YtggamdlpiejbiaaGreat
open Go.RowKit Go.Shelf

def atE (es : List Evt) (n : Int) : List (Evt × Int) := es.map fun x => (x, n)
def dnE (n : Int) : Evt × Int := (⟨3, 0, 0, 0, 0, []⟩, n)
theorem run_evts (l0 l1 l2 : Int) {h : HS} {bd bd' : Bd} {told imgs c st e : Int} {row bs : List Int} (hp : Yx l0 l1 l2 ⟨some h, 2, bd, told, imgs, false, 0⟩ c = Yw ⟨some h, 2, bd, told + 1, imgs, false, 0⟩ bd' st e row) :
    (st = 0 → Xi l0 l1 l2 ⟨some h, 2, bd, told, imgs, false, 0⟩ (c :: bs) = Zu (atE (rowE row) (told + 1)) (Xi l0 l1 l2 ⟨some h, 2, bd', told + 1, imgs, false, 0⟩ bs)) ∧
    (st = 1 → Xi l0 l1 l2 ⟨some h, 2, bd, told, imgs, false, 0⟩ (c :: bs) = Zu (atE (rowE row) (told + 1) ++ [dnE (told + 1)]) (Xi l0 l1 l2 ⟨some h, 0, .no, told + 1, imgs + 1, false, 0⟩ bs)) ∧
    (st = 2 → e ≠ 0 → Xi l0 l1 l2 ⟨some h, 2, bd, told, imgs, false, 0⟩ (c :: bs) = (⟨some h, 2, bd', told + 1, imgs, false, e⟩, atE (rowE row) (told + 1))) := by
  refine ⟨fun hs => ?_, fun hs => ?_, fun hs he => ?_⟩
  · subst hs
    rw [Y3, hp]
    simp [Yw, doneE, atE]
  · subst hs
    rw [Y3, hp]
    simp [Yw, doneE, atE, dnE]
  · subst hs
    rw [Y3, hp]
    simp only [Yw, if_true, doneE, show ¬ (2 : Int) = 1 from by decide, if_false, List.append_nil]
    rw [psRun_dead _ _ _ _ (.inr he)]
    simp [Zu, atE]
theorem put_rw (l0 l1 l2 : Int) {h : HS} {r : RW} {told imgs c : Int} : Yx l0 l1 l2 ⟨some h, 2, .rw r, told, imgs, false, 0⟩ c = Yw ⟨some h, 2, .rw r, told + 1, imgs, false, 0⟩ (.rw (Xm h.K h.W.toNat h.H h.M r c).1) (Xm h.K h.W.toNat h.H h.M r c).1.last (Xm h.K h.W.toNat h.H h.M r c).1.e (Xm h.K h.W.toNat h.H h.M r c).2 := by
  rw [psPut_ok _ _ _ rfl rfl]
  exact (if_neg (show ¬ (2 : Int) = 0 by decide)).trans (if_neg (show ¬ (2 : Int) = 1 by decide))
end Go.Proofs.YtggamdlpiejbiaaGreat
namespace Go.Proofs.YtggamdlpiejbiaaGreat
open Go.RowKit Go.Shelf

def okUpto (K M : Int) (w : Nat) (r : List Int) (n : Nat) : Prop := K ≠ 4 → ∀ i, (i + 1) * w ≤ n → (i + 1) * w ≤ r.length → XH w r i ≤ M
theorem set_take {b r : List Int} {k : Nat} (hk : k < r.length) (hb : k < b.length) (ht : b.take k = r.take k) : (b.set k r[k]).take (k + 1) = r.take (k + 1) := by
  rw [List.take_set, List.take_succ_eq_append_getElem hb, List.take_succ_eq_append_getElem hk, ht]
  rw [List.set_append_right _ _ (by rw [List.length_take]; omega)]
  simp [List.length_take, Nat.min_eq_left (Nat.le_of_lt hk)]
theorem smp_take {w : Nat} (hw : w = 1 ∨ w = 2) {b r : List Int} {k i : Nat} (ht : b.take k = r.take k) (hi : (i + 1) * w ≤ k) : XH w b i = XH w r i := by
  have hq : ∀ j, j < k → b[j]? = r[j]? := fun j hj => by
    have := congrArg (fun l => l[j]?) ht
    simpa [List.getElem?_take, hj] using this
  unfold XH
  rcases hw with rfl | rfl
  · rw [if_pos rfl, if_pos rfl, hq _ (by omega)]
  · rw [if_neg (by decide), if_neg (by decide), hq _ (by omega), hq _ (by omega)]
section
variable {l0 l1 l2 : Int} {h : HS} {imgs : Int}
/-- One byte within a row, not its last, and not a bad one's last. -/
theorem rw_mid {b : List Int} {k : Nat} {y e c : Int} (hn : k + 1 < b.length) (hg : ¬ (h.K ≠ 4 ∧ (k + 1) % Qi h.M = 0 ∧ XH (Qi h.M) (b.set k c) ((k + 1) / Qi h.M - 1) > h.M)) : Xm h.K h.W.toNat h.H h.M ⟨b, k, y, 0, e⟩ c = (⟨b.set k c, k + 1, y, 0, e⟩, []) := by
  unfold Xm
  rw [if_neg (by simp), if_neg hg, if_pos (by simpa using hn)]
theorem rw_last {b : List Int} {k : Nat} {y e c : Int} (hn : ¬ k + 1 < b.length) (hg : ¬ (h.K ≠ 4 ∧ (k + 1) % Qi h.M = 0 ∧ XH (Qi h.M) (b.set k c) ((k + 1) / Qi h.M - 1) > h.M)) : Xm h.K h.W.toNat h.H h.M ⟨b, k, y, 0, e⟩ c = (⟨b.set k c, 0, y + 1, if y + 1 = h.H then 1 else 0, e⟩, YG h.K h.W.toNat (Qi h.M) (b.set k c)) := by
  unfold Xm
  rw [if_neg (by simp), if_neg hg, if_neg (by simpa using hn)]
theorem rw_bad {b : List Int} {k : Nat} {y e c : Int} (hg : h.K ≠ 4 ∧ (k + 1) % Qi h.M = 0 ∧ XH (Qi h.M) (b.set k c) ((k + 1) / Qi h.M - 1) > h.M) : Xm h.K h.W.toNat h.H h.M ⟨b, k, y, 0, e⟩ c = (⟨b.set k c, k + 1, y, 2, 5⟩, []) := by
  unfold Xm
  rw [if_neg (by simp), if_pos hg]
/-- A row's bytes that are good: whole, or cut off. -/
theorem row_run {n : Nat} {r : List Int} {y t0 : Int} (hok : okUpto h.K h.M (Qi h.M) r n) (hW : 1 ≤ h.W.toNat) (hn : n = QD h.K h.W.toNat (Qi h.M)) : ∀ (m k : Nat), m = n - k → k < n → ∀ (b : List Int), b.length = n → k ≤ r.length → b.take k = r.take k →
    (n ≤ r.length → y + 1 ≠ h.H → ∃ e', e' = (0 : Int) ∧ Xi l0 l1 l2 ⟨some h, 2, .rw ⟨b, k, y, 0, 0⟩, t0 + k, imgs, false, 0⟩ (r.drop k) = Zu [(⟨2, 0, 0, 0, 0, YG h.K h.W.toNat (Qi h.M) (r.take n)⟩, t0 + n)] (Xi l0 l1 l2 ⟨some h, 2, .rw ⟨r.take n, 0, y + 1, 0, e'⟩, t0 + n, imgs, false, 0⟩ (r.drop n))) ∧
    (n ≤ r.length → y + 1 = h.H → Xi l0 l1 l2 ⟨some h, 2, .rw ⟨b, k, y, 0, 0⟩, t0 + k, imgs, false, 0⟩ (r.drop k) = Zu [(⟨2, 0, 0, 0, 0, YG h.K h.W.toNat (Qi h.M) (r.take n)⟩, t0 + n), dnE (t0 + n)] (Xi l0 l1 l2 ⟨some h, 0, .no, t0 + n, imgs + 1, false, 0⟩ (r.drop n))) ∧
    (r.length < n → ∃ s, Xi l0 l1 l2 ⟨some h, 2, .rw ⟨b, k, y, 0, 0⟩, t0 + k, imgs, false, 0⟩ (r.drop k) = (⟨some h, 2, .rw s, t0 + r.length, imgs, false, 0⟩, [])) := by
  have hw := Q4 h.M
  intro m
  induction m with
  | zero => intro k hm hk; omega
  | succ m ih =>
    intro k hm hk b hb hkr ht
    by_cases hke : k = r.length
    · refine ⟨fun q => by omega, fun q => by omega, fun _ => ⟨⟨b, k, y, 0, 0⟩, ?_⟩⟩
      rw [List.drop_of_length_le (by omega), hke]; rfl
    have hkl : k < r.length := by omega
    have hdr := List.drop_eq_getElem_cons hkl
    have hst := set_take hkl (by omega) ht
    have hg : ¬ (h.K ≠ 4 ∧ (k + 1) % Qi h.M = 0 ∧ XH (Qi h.M) (b.set k r[k]) ((k + 1) / Qi h.M - 1) > h.M) := by
      rintro ⟨h1, h2, h3⟩
      have hx : ((k + 1) / Qi h.M - 1 + 1) * Qi h.M = k + 1 := by
        rcases hw with e | e <;> rw [e] at h2 ⊢ <;> omega
      rw [smp_take hw hst (by omega)] at h3
      have := hok h1 _ (by rw [hx]; omega) (by rw [hx]; omega)
      omega
    have hsl : (b.set k r[k]).length = n := by rw [List.length_set, hb]
    have hcast : t0 + ((k + 1 : Nat) : Int) = t0 + k + 1 := by push_cast; omega
    have hq := put_rw l0 l1 l2 (h := h) (r := ⟨b, k, y, 0, 0⟩) (told := t0 + k) (imgs := imgs) (c := r[k])
    by_cases hl : k + 1 < n
    · rw [rw_mid (by omega) hg] at hq
      have hr := (run_evts l0 l1 l2 (bs := r.drop (k + 1)) hq).1 rfl
      have hi := ih (k + 1) (by omega) hl (b.set k r[k]) hsl (by omega) hst
      rw [hcast] at hi
      rw [hdr, hr]
      have hre : atE (rowE []) (t0 + k + 1) = [] := rfl
      rw [hre, papp_nil]
      exact hi
    · have hke2 : k + 1 = n := by omega
      rw [rw_last (by omega) hg] at hq
      have hall : b.set k r[k] = r.take n := by
        have h1 : (b.set k r[k]).take (k + 1) = b.set k r[k] := List.take_of_length_le (by omega)
        rw [← h1, hst, hke2]
      rw [hall] at hq
      have hrl : (YG h.K h.W.toNat (Qi h.M) (r.take n)).length = h.W.toNat := YL hw (by rw [List.length_take]; omega)
      have hre : rowE (YG h.K h.W.toNat (Qi h.M) (r.take n)) = [⟨2, 0, 0, 0, 0, YG h.K h.W.toNat (Qi h.M) (r.take n)⟩] := if_neg (fun q => by rw [q] at hrl; simp at hrl; omega)
      have hr := run_evts l0 l1 l2 (bs := r.drop (k + 1)) hq
      have hcast2 : t0 + (n : Int) = t0 + k + 1 := by rw [← hke2]; exact hcast
      refine ⟨fun _ hy => ⟨0, rfl, ?_⟩, fun _ hy => ?_, fun q => by omega⟩
      · have hr1 := hr.1 (if_neg hy)
        rw [hdr, hr1, hre, hcast2, ← hke2, if_neg hy]; rfl
      · have hr1 := hr.2.1 (if_pos hy)
        rw [hdr, hr1, hre, hcast2, ← hke2]; rfl
/-- A row's bytes of which a sample is bad. -/
theorem row_bad {n i0 : Nat} {r : List Int} {y t0 : Int} (hK : h.K ≠ 4) (hbad : XH (Qi h.M) r i0 > h.M) (hok : ∀ i, i < i0 → XH (Qi h.M) r i ≤ h.M) (h1 : (i0 + 1) * Qi h.M ≤ n) (h2 : (i0 + 1) * Qi h.M ≤ r.length) : ∀ (m k : Nat), m = (i0 + 1) * Qi h.M - k → k < (i0 + 1) * Qi h.M → ∀ (b : List Int), b.length = n → b.take k = r.take k →
    ∃ s, Xi l0 l1 l2 ⟨some h, 2, .rw ⟨b, k, y, 0, 0⟩, t0 + k, imgs, false, 0⟩ (r.drop k) = (⟨some h, 2, .rw s, t0 + ((i0 + 1) * Qi h.M : Nat), imgs, false, 5⟩, []) := by
  have hw := Q4 h.M
  intro m
  induction m with
  | zero => intro k hm hk; omega
  | succ m ih =>
    intro k hm hk b hb ht
    have hkl : k < r.length := by omega
    have hdr := List.drop_eq_getElem_cons hkl
    have hst := set_take hkl (by omega) ht
    have hcast : t0 + ((k + 1 : Nat) : Int) = t0 + k + 1 := by push_cast; omega
    have hq := put_rw l0 l1 l2 (h := h) (r := ⟨b, k, y, 0, 0⟩) (told := t0 + k) (imgs := imgs) (c := r[k])
    by_cases hl : k + 1 < (i0 + 1) * Qi h.M
    · have hg : ¬ (h.K ≠ 4 ∧ (k + 1) % Qi h.M = 0 ∧ XH (Qi h.M) (b.set k r[k]) ((k + 1) / Qi h.M - 1) > h.M) := by
        rintro ⟨_, h4, h3⟩
        have hx : ((k + 1) / Qi h.M - 1 + 1) * Qi h.M = k + 1 ∧ (k + 1) / Qi h.M - 1 < i0 := by
          rcases hw with e | e <;> rw [e] at h4 hl ⊢ <;> omega
        rw [smp_take hw hst (by omega)] at h3
        have := hok _ hx.2
        omega
      rw [rw_mid (by omega) hg] at hq
      have hr := (run_evts l0 l1 l2 (bs := r.drop (k + 1)) hq).1 rfl
      have hi := ih (k + 1) (by omega) hl (b.set k r[k]) (by rw [List.length_set, hb]) hst
      rw [hcast] at hi
      rw [hdr, hr]
      exact hi
    · have hke2 : k + 1 = (i0 + 1) * Qi h.M := by omega
      have hg : h.K ≠ 4 ∧ (k + 1) % Qi h.M = 0 ∧ XH (Qi h.M) (b.set k r[k]) ((k + 1) / Qi h.M - 1) > h.M := by
        have hx : (k + 1) % Qi h.M = 0 ∧ (k + 1) / Qi h.M - 1 = i0 := by
          rw [hke2]
          rcases hw with e | e <;> rw [e] <;> omega
        refine ⟨hK, hx.1, ?_⟩
        rw [hx.2, smp_take hw hst (by omega)]
        exact hbad
      rw [rw_bad hg] at hq
      have hr := (run_evts l0 l1 l2 (bs := r.drop (k + 1)) hq).2.2 rfl (by simp)
      refine ⟨⟨b.set k r[k], k + 1, y, 2, 5⟩, ?_⟩
      rw [hdr, hr, ← hke2, hcast]; rfl
end
theorem badI_spec (w M : Int) : ∀ (S : List Int) (i : Int), (badI w M S i = 0 ∧ ∀ x ∈ S, x ≤ M) ∨ ∃ j, ∃ hj : j < S.length, S[j] > M ∧ (∀ j' (h : j' < j), S[j']'(by omega) ≤ M) ∧ badI w M S i = w * (i + j + 1)
  | [], i => .inl ⟨rfl, fun x hx => by simp at hx⟩
  | x :: S, i => by
    by_cases hx : x > M
    · exact .inr ⟨0, by simp, hx, fun j' h => by omega, by rw [badI, if_pos hx]; simp⟩
    · rcases badI_spec w M S (i + 1) with ⟨h1, h2⟩ | ⟨j, hj, h1, h2, h3⟩
      · refine .inl ⟨by rw [badI, if_neg hx, h1], fun z hz => ?_⟩
        rcases List.mem_cons.1 hz with rfl | hz
        · omega
        · exact h2 z hz
      · refine .inr ⟨j + 1, by simpa using hj, by simpa using h1, fun j' h => ?_, by rw [badI, if_neg hx, h3]; congr 1; push_cast; omega⟩
        cases j' with
        | zero => simp only [List.getElem_cons_zero]; omega
        | succ j' => simpa using h2 j' (by omega)

theorem smpAt_drop {w : Nat} (hw : w = 1 ∨ w = 2) (R : List Int) (P i : Nat) : XH w (R.drop (P * w)) i = XH w R (P + i) := by
  unfold XH
  rcases hw with rfl | rfl
  · rw [if_pos rfl, if_pos rfl, List.getElem?_drop, show P * 1 + i = P + i by omega]
  · rw [if_neg (by decide), if_neg (by decide), List.getElem?_drop, List.getElem?_drop, show P * 2 + 2 * i = 2 * (P + i) by omega, show P * 2 + (2 * i + 1) = 2 * (P + i) + 1 by omega]
theorem smps_at {w : Nat} (hw : w = 1 ∨ w = 2) (R : List Int) {j N : Nat} (h1 : (j + 1) * w ≤ N) (h2 : (j + 1) * w ≤ R.length) : ∃ hj : j < (Zp w (R.take N)).length, (Zp w (R.take N))[j] = XH w R j := by
  have hl : (R.take N).length = min N R.length := List.length_take
  refine ⟨by rw [Zx, hl]; rcases hw with rfl | rfl <;> omega, ?_⟩
  simp only [Zp, List.getElem_map, List.getElem_range]
  exact smp_take hw (k := N) (by rw [List.take_take, Nat.min_self]) h1
section
variable {K M : Int} {W H : Nat}
theorem strd_q (hK : K ≠ 4) : QD K W (Qi M) = (W * (QZ K).toNat) * Qi M := if_neg hK
/-- Where a row's samples are among all of a raster. -/
theorem row_pos {R : List Int} {y i : Nat} (hy : y < H) (hK : K ≠ 4) (h1 : (i + 1) * Qi M ≤ QD K W (Qi M)) (h2 : y * QD K W (Qi M) + (i + 1) * Qi M ≤ R.length) :
    ∃ P, y * QD K W (Qi M) = P * Qi M ∧ ∃ hj : P + i < (Zp (Qi M) (R.take (QD K W (Qi M) * H))).length, (Zp (Qi M) (R.take (QD K W (Qi M) * H)))[P + i] = XH (Qi M) (R.drop (y * QD K W (Qi M))) i := by
  have hw := Q4 M
  have hn := strd_q (M := M) (W := W) hK
  have hP : y * QD K W (Qi M) = (y * (W * (QZ K).toNat)) * Qi M := by rw [hn]; exact (Nat.mul_assoc _ _ _).symm
  have hH : (y + 1) * QD K W (Qi M) ≤ QD K W (Qi M) * H := by rw [Nat.mul_comm]; exact Nat.mul_le_mul_left _ hy
  have hy1 : (y + 1) * QD K W (Qi M) = y * QD K W (Qi M) + QD K W (Qi M) := by rw [Nat.add_mul, Nat.one_mul]
  refine ⟨_, hP, ?_⟩
  rw [hP, smpAt_drop hw]
  have hj : ((y * (W * (QZ K).toNat)) + i + 1) * Qi M = (y * (W * (QZ K).toNat)) * Qi M + (i + 1) * Qi M := by rw [← Nat.add_mul]; congr 1
  exact smps_at hw R (by rw [hj, ← hP]; omega) (by rw [hj, ← hP]; exact h2)
theorem badR_n4 {R : List Int} (hK : K ≠ 4) : YT K W H M R = badI ((Qi M : Nat) : Int) M (Zp (Qi M) (R.take (QD K W (Qi M) * H))) 0 := if_neg hK
theorem row_ok {R : List Int} {y : Nat} (hy : y < H) (hb : ¬ (YT K W H M R > 0 ∧ YT K W H M R ≤ (((y + 1) * QD K W (Qi M) : Nat) : Int))) : okUpto K M (Qi M) (R.drop (y * QD K W (Qi M))) (QD K W (Qi M)) := by
  intro hK i h1 h2
  have hw := Q4 M
  rw [List.length_drop] at h2
  have h2' : y * QD K W (Qi M) + (i + 1) * Qi M ≤ R.length := by
    have : 1 ≤ (i + 1) * Qi M := Nat.mul_pos (by omega) (by omega)
    omega
  obtain ⟨P, hP, hj, he⟩ := row_pos (H := H) hy hK h1 h2'
  have hy1 : (y + 1) * QD K W (Qi M) = y * QD K W (Qi M) + QD K W (Qi M) := by rw [Nat.add_mul, Nat.one_mul]
  rw [hy1, hP] at hb
  rw [← he]
  rw [badR_n4 hK] at hb
  rcases badI_spec ((Qi M : Nat) : Int) M (Zp (Qi M) (R.take (QD K W (Qi M) * H))) 0 with ⟨_, hall⟩ | ⟨j, hjl, hjb, hjo, hje⟩
  · exact hall _ (List.getElem_mem hj)
  · by_cases hlt : P + i < j
    · exact hjo _ hlt
    · exfalso
      apply hb
      rw [hje]
      rcases hw with e | e <;> rw [e] at h1 ⊢ <;> push_cast <;> omega
theorem row_isbad {R : List Int} {y : Nat} (_hy : y < H) (h0 : YT K W H M R > 0) (h1 : YT K W H M R ≤ (((y + 1) * QD K W (Qi M) : Nat) : Int)) (h2 : ¬ YT K W H M R ≤ ((y * QD K W (Qi M) : Nat) : Int)) :
    K ≠ 4 ∧ ∃ i0, XH (Qi M) (R.drop (y * QD K W (Qi M))) i0 > M ∧ (∀ i, i < i0 → XH (Qi M) (R.drop (y * QD K W (Qi M))) i ≤ M) ∧ (i0 + 1) * Qi M ≤ QD K W (Qi M) ∧ (i0 + 1) * Qi M ≤ (R.drop (y * QD K W (Qi M))).length ∧ YT K W H M R = ((y * QD K W (Qi M) + (i0 + 1) * Qi M : Nat) : Int) := by
  have hK : K ≠ 4 := fun h => by unfold YT at h0; rw [if_pos h] at h0; omega
  refine ⟨hK, ?_⟩
  have hw := Q4 M
  have hn := strd_q (M := M) (W := W) hK
  have hP : y * QD K W (Qi M) = (y * (W * (QZ K).toNat)) * Qi M := by rw [hn]; exact (Nat.mul_assoc _ _ _).symm
  have hy1 : (y + 1) * QD K W (Qi M) = y * QD K W (Qi M) + QD K W (Qi M) := by rw [Nat.add_mul, Nat.one_mul]
  rw [badR_n4 hK] at h0 h1 h2 ⊢
  rcases badI_spec ((Qi M : Nat) : Int) M (Zp (Qi M) (R.take (QD K W (Qi M) * H))) 0 with ⟨hz, _⟩ | ⟨j, hjl, hjb, hjo, hje⟩
  · omega
  rw [hje] at h0 h1 h2 ⊢
  have hjl2 := hjl
  rw [Zx, List.length_take] at hjl2
  rw [hy1] at h1
  obtain ⟨P, hPd⟩ : ∃ P, P = y * (W * (QZ K).toNat) := ⟨_, rfl⟩
  obtain ⟨q, hqd⟩ : ∃ q, q = W * (QZ K).toNat := ⟨_, rfl⟩
  rw [← hPd] at hP
  rw [← hqd] at hn
  rw [hP] at h1 h2 ⊢
  have hPj : P ≤ j := by rcases hw with e | e <;> rw [e] at h2 <;> push_cast at h2 <;> omega
  have hi1 : (j - P + 1) * Qi M ≤ QD K W (Qi M) := by
    rw [hn] at h1 ⊢
    have : j + 1 ≤ P + q := by
      rcases hw with e | e <;> rw [e] at h1 <;> push_cast at h1 <;> omega
    exact Nat.mul_le_mul_right _ (by omega)
  have hlen : P * Qi M + (j - P + 1) * Qi M ≤ R.length := by
    rw [← Nat.add_mul]
    have hx : P + (j - P + 1) = j + 1 := by omega
    rw [hx]
    rcases hw with e | e <;> rw [e] at hjl2 ⊢ <;> omega
  refine ⟨j - P, ?_, ?_, hi1, by rw [List.length_drop]; omega, ?_⟩
  · rw [smpAt_drop hw, show P + (j - P) = j by omega]
    have hN : (j + 1) * Qi M ≤ QD K W (Qi M) * H := by rcases hw with e | e <;> rw [e] at hjl2 ⊢ <;> omega
    have hR : (j + 1) * Qi M ≤ R.length := by rcases hw with e | e <;> rw [e] at hjl2 ⊢ <;> omega
    obtain ⟨_, he⟩ := smps_at hw R hN hR
    rw [← he]; exact hjb
  · intro i hi
    rw [smpAt_drop hw]
    have hN : (P + i + 1) * Qi M ≤ QD K W (Qi M) * H := by rcases hw with e | e <;> rw [e] at hjl2 ⊢ <;> omega
    have hR : (P + i + 1) * Qi M ≤ R.length := by rcases hw with e | e <;> rw [e] at hjl2 ⊢ <;> omega
    obtain ⟨_, he⟩ := smps_at hw R hN hR
    rw [← he]; exact hjo _ (by omega)
  · rw [← Nat.add_mul, show P + (j - P + 1) = j + 1 by omega]; push_cast; rw [Int.zero_add, Int.mul_comm]
end
/-- How a raw raster stands in the reference: so many rows, the events. -/
def rwI (l0 l1 l2 : Int) (h : HS) (bs : List Int) (at0 : Nat) (imgs : Int) (y : Nat) (out : List (Evt × Int)) : Prop :=
  ((y : Int) < h.H → ∃ b, b.length = QD h.K h.W.toNat (Qi h.M) ∧ Xi l0 l1 l2 ⟨some h, 2, .rw (rw0 h), at0, imgs, false, 0⟩ (bs.drop at0) = Zu out (Xi l0 l1 l2 ⟨some h, 2, .rw ⟨b, 0, y, 0, 0⟩, ((at0 + y * QD h.K h.W.toNat (Qi h.M) : Nat) : Int), imgs, false, 0⟩ (bs.drop (at0 + y * QD h.K h.W.toNat (Qi h.M))))) ∧
  ((y : Int) = h.H → Xi l0 l1 l2 ⟨some h, 2, .rw (rw0 h), at0, imgs, false, 0⟩ (bs.drop at0) = Zu (out ++ [dnE ((at0 + y * QD h.K h.W.toNat (Qi h.M) : Nat) : Int)]) (Xi l0 l1 l2 ⟨some h, 0, .no, ((at0 + y * QD h.K h.W.toNat (Qi h.M) : Nat) : Int), imgs + 1, false, 0⟩ (bs.drop (at0 + y * QD h.K h.W.toNat (Qi h.M)))))
section
variable {l0 l1 l2 : Int} {h : HS} {bs : List Int} {at0 : Nat} {imgs : Int} {y : Nat} {out : List (Evt × Int)} {fin : Bool}
theorem rwI0 (hH : 1 ≤ h.H) : rwI l0 l1 l2 h bs at0 imgs 0 [] := by
  refine ⟨fun _ => ⟨List.replicate (QD h.K h.W.toNat (Qi h.M)) 0, by simp, ?_⟩, fun q => by omega⟩
  rw [papp_nil, Nat.zero_mul, Nat.add_zero]; rfl
theorem rw_bad' (_hf : Zz h) (hI : rwI l0 l1 l2 h bs at0 imgs y out) (hy : (y : Int) < h.H) (h0 : YT h.K h.W.toNat h.H.toNat h.M (bs.drop at0) > 0) (h1 : YT h.K h.W.toNat h.H.toNat h.M (bs.drop at0) ≤ (((y + 1) * QD h.K h.W.toNat (Qi h.M) : Nat) : Int)) (h2 : ¬ YT h.K h.W.toNat h.H.toNat h.M (bs.drop at0) ≤ ((y * QD h.K h.W.toNat (Qi h.M) : Nat) : Int)) :
    BodyOut l0 l1 l2 fin h (.rw (rw0 h)) bs at0 imgs out (at0 + YT h.K h.W.toNat h.H.toNat h.M (bs.drop at0)) 5 := by
  obtain ⟨b, hb, hr⟩ := hI.1 hy
  obtain ⟨hK, i0, g1, g2, g3, g4, g5⟩ := row_isbad (H := h.H.toNat) (y := y) (by omega) h0 h1 h2
  rw [List.drop_drop] at g1 g2 g4
  have hpos : 0 < (i0 + 1) * Qi h.M := Nat.mul_pos (by omega) (by have := Q4 h.M; omega)
  obtain ⟨s, hs⟩ := row_bad (l0 := l0) (l1 := l1) (l2 := l2) (imgs := imgs) (y := y) (t0 := ((at0 + y * QD h.K h.W.toNat (Qi h.M) : Nat) : Int)) hK g1 g2 g3 g4 _ 0 rfl hpos b hb (by simp)
  rw [List.drop_zero, Int.natCast_zero, Int.add_zero] at hs
  refine ⟨fun q => absurd q (by decide), fun _ => ⟨⟨some h, 2, .rw s, ((at0 + y * QD h.K h.W.toNat (Qi h.M) : Nat) : Int) + (((i0 + 1) * Qi h.M : Nat) : Int), imgs, false, 5⟩, ?_, rfl, ?_, rfl⟩⟩
  · rw [Int.toNat_natCast, hr, hs]
    simp only [Zu, List.append_nil]
    exact psFin_dead (.inr (by simp))
  · simp only; rw [g5]; push_cast; omega
theorem rw_row (hf : Zz h) (hI : rwI l0 l1 l2 h bs at0 imgs y out) (hy : (y : Int) < h.H) (hb0 : ¬ (YT h.K h.W.toNat h.H.toNat h.M (bs.drop at0) > 0 ∧ YT h.K h.W.toNat h.H.toNat h.M (bs.drop at0) ≤ (((y + 1) * QD h.K h.W.toNat (Qi h.M) : Nat) : Int))) (hl : at0 + (y + 1) * QD h.K h.W.toNat (Qi h.M) ≤ bs.length) :
    rwI l0 l1 l2 h bs at0 imgs (y + 1) (out ++ [(⟨2, 0, 0, 0, 0, YG h.K h.W.toNat (Qi h.M) ((bs.drop (at0 + y * QD h.K h.W.toNat (Qi h.M))).take (QD h.K h.W.toNat (Qi h.M)))⟩, ((at0 + (y + 1) * QD h.K h.W.toNat (Qi h.M) : Nat) : Int))]) := by
  obtain ⟨b, hb, hr⟩ := hI.1 hy
  have hM := hf.2.2
  unfold X6 at hM
  have hsb := XZ (K := h.K) (W := h.W.toNat) (Q4 h.M) (by omega) (by omega)
  have hok := row_ok (H := h.H.toNat) (y := y) (by omega) hb0
  rw [List.drop_drop] at hok
  have hy1 : (y + 1) * QD h.K h.W.toNat (Qi h.M) = y * QD h.K h.W.toNat (Qi h.M) + QD h.K h.W.toNat (Qi h.M) := by rw [Nat.add_mul, Nat.one_mul]
  have hrun := row_run (l0 := l0) (l1 := l1) (l2 := l2) (imgs := imgs) (y := y) (t0 := ((at0 + y * QD h.K h.W.toNat (Qi h.M) : Nat) : Int)) hok (by omega) rfl _ 0 rfl (by omega) b hb (Nat.zero_le _) (by simp)
  rw [List.drop_zero, Int.natCast_zero, Int.add_zero, List.drop_drop] at hrun
  have hcast : ((at0 + y * QD h.K h.W.toNat (Qi h.M) : Nat) : Int) + ((QD h.K h.W.toNat (Qi h.M) : Nat) : Int) = ((at0 + (y + 1) * QD h.K h.W.toNat (Qi h.M) : Nat) : Int) := by rw [hy1]; push_cast; omega
  have hdr : at0 + y * QD h.K h.W.toNat (Qi h.M) + QD h.K h.W.toNat (Qi h.M) = at0 + (y + 1) * QD h.K h.W.toNat (Qi h.M) := by rw [hy1]; omega
  rw [hcast, hdr] at hrun
  have hlen : QD h.K h.W.toNat (Qi h.M) ≤ (bs.drop (at0 + y * QD h.K h.W.toNat (Qi h.M))).length := by rw [List.length_drop]; omega
  refine ⟨fun q => ?_, fun q => ?_⟩
  · obtain ⟨e', he', hx⟩ := hrun.1 hlen (by push_cast at q; omega)
    subst he'
    refine ⟨_, ?_, by rw [hr, hx, papp_papp]; rfl⟩
    rw [List.length_take]; omega
  · have hx := hrun.2.1 hlen (by push_cast at q; omega)
    rw [hr, hx, papp_papp, List.append_assoc]; rfl
theorem rw_short (hf : Zz h) (hI : rwI l0 l1 l2 h bs at0 imgs y out) (hy : (y : Int) < h.H) (hat : at0 + y * QD h.K h.W.toNat (Qi h.M) ≤ bs.length) (hb0 : ¬ (YT h.K h.W.toNat h.H.toNat h.M (bs.drop at0) > 0 ∧ YT h.K h.W.toNat h.H.toNat h.M (bs.drop at0) ≤ (((y + 1) * QD h.K h.W.toNat (Qi h.M) : Nat) : Int))) (hl : ¬ at0 + (y + 1) * QD h.K h.W.toNat (Qi h.M) ≤ bs.length) :
    BodyOut l0 l1 l2 fin h (.rw (rw0 h)) bs at0 imgs out bs.length (if fin = true then 6 else 9) := by
  obtain ⟨b, hb, hr⟩ := hI.1 hy
  have hM := hf.2.2
  unfold X6 at hM
  have hsb := XZ (K := h.K) (W := h.W.toNat) (Q4 h.M) (by omega) (by omega)
  have hok := row_ok (H := h.H.toNat) (y := y) (by omega) hb0
  rw [List.drop_drop] at hok
  have hy1 : (y + 1) * QD h.K h.W.toNat (Qi h.M) = y * QD h.K h.W.toNat (Qi h.M) + QD h.K h.W.toNat (Qi h.M) := by rw [Nat.add_mul, Nat.one_mul]
  have hrun := row_run (l0 := l0) (l1 := l1) (l2 := l2) (imgs := imgs) (y := y) (t0 := ((at0 + y * QD h.K h.W.toNat (Qi h.M) : Nat) : Int)) hok (by omega) rfl _ 0 rfl (by omega) b hb (Nat.zero_le _) (by simp)
  rw [List.drop_zero, Int.natCast_zero, Int.add_zero] at hrun
  obtain ⟨s, hx⟩ := hrun.2.2 (by rw [List.length_drop]; omega)
  have hcast : ((at0 + y * QD h.K h.W.toNat (Qi h.M) : Nat) : Int) + (((bs.drop (at0 + y * QD h.K h.W.toNat (Qi h.M))).length : Nat) : Int) = ((bs.length : Nat) : Int) := by rw [List.length_drop]; omega
  rw [hcast] at hx
  refine ⟨fun q => by cases fin <;> simp at q, fun _ => ?_⟩
  rw [Int.toNat_natCast, hr, hx]
  cases fin with
  | false => exact ⟨⟨some h, 2, .rw s, bs.length, imgs, false, 0⟩, by simp [psFin, Zu], by simp, rfl, rfl⟩
  | true => exact ⟨⟨some h, 2, .rw s, bs.length, imgs, true, 6⟩, by simp [psFin, Zu, psEnd], by simp, rfl, rfl⟩
end

end Go.Proofs.YtggamdlpiejbiaaGreat
namespace Go.Proofs.YtggamdlpiejbiaaGreat
open Go.RowKit Go.Shelf


theorem u8s_from (bs : List Int) (L : Nat) : ((Xn bs).drop (L * 1)).take ((bs.length - L) * 1) = Xn (bs.drop L) := by
  rw [Nat.mul_one, Nat.mul_one, List.take_of_length_le (by simp [Xn])]
  simp [Xn, List.map_drop]
end Go.Proofs.YtggamdlpiejbiaaGreat
namespace Go.Proofs.YtggamdlpiejbiaaGreat
open Go.RowKit Go.Shelf

structure Img where
  (c m w h : Int) (px : List Int)
def im0 : Img := ⟨0, 0, 0, 0, []⟩
end Go.Proofs.YtggamdlpiejbiaaGreat
namespace Go.Proofs.YtggamdlpiejbiaaGreat
open Go.RowKit Go.Shelf


theorem gd_step2 {xs : List Int} {f : Int → Int} {n k : Nat} (h : k < xs.length) (hn : k < n) : (QU ((xs.take k).map f) ++ List.replicate (n - k) (Value.int .i64 0)).set (0 + k * 1) (.int .i64 (f xs[k])) = QU ((xs.take (k + 1)).map f) ++ List.replicate (n - (k + 1)) (Value.int .i64 0) := by
  rw [Xd xs h, List.map_append, List.map_cons, List.map_nil, ← ints_snoc]
  have hl : (QU ((xs.take k).map f)).length = k := by rw [QX, List.length_map, List.length_take]; omega
  rw [List.set_append_right _ _ (by omega), hl, show 0 + k * 1 - k = 0 by omega, show n - k = (n - (k + 1)) + 1 by omega, List.replicate_succ, List.set_cons_zero, List.append_assoc]
  rfl

theorem GoodPx3_spec (As : List HP) (a : Option Addr) (c : Nat) (xs : List Int) (ch mx : Int) (hA : RdsL As a (QU xs)) (hr : ∀ x ∈ xs, -9223372036854775808 ≤ x ∧ x < 9223372036854775808) (hl : ch ≤ (xs.length : Int)) (hc : ch = 1 ∨ ch = 3) (hm : 1 ≤ mx) (hm2 : mx ≤ 65535) : Fn Tryz.prog 72 #[.slice a xs.length c, .agg #[.int .i64 ch, .int .i64 mx]] As (fun v l => v = .int .u64 (Xy ((xs.take ch.toNat).map (fun x => QM x (mx + 1)))).1 ∧ l = As) := by
 generalize hys : (xs.take ch.toNat).map (fun x => QM x (mx + 1)) = ys
 have hyl : ys.length = ch.toNat := by rw [← hys, List.length_map, List.length_take]; omega
 refine Qk (vs := [.slice a xs.length c, .agg #[.int .i64 ch, .int .i64 mx]]) Tryz.func72 rfl Tryz.ntmps72 rfl (Qb (Qa (QP rfl rfl rfl ?_)))
 intro g1
 refine Qe rfl rfl (WpL.nil (Qb (Qa (Qj (o2 := 0) rfl rfl rfl (Qo rfl rfl (by rfl) ?_)))))
 refine s_mkF rfl rfl (by omega) (by omega) (by omega) rfl ?_
 intro gO
 refine Qe rfl rfl (WpL.nil (Qb (Qb (Qa (Qe rfl rfl (WpL.nil (Wp.block ?_)))))))
 refine Wp.loopD (σ := Nat) (fun k => k ≤ ch.toNat) [6, 12, 13, 14, 15, 16, 17, 18, 19, 20, 21, 22, 23, 24, 25, 26, 27, 28, 29, 30, 31, 32, 33, 34] (fun k => [(6, .int .i64 (k : Int))]) (fun k => (QB gO (QU ((xs.take k).map (fun x => QM x (mx + 1))) ++ List.replicate (ch.toNat - k) (Value.int .i64 0)) 3) :: (QB g1 [.int .i64 ch, .int .i64 mx] 48) :: As) (fun k => ch.toNat - k) 0 ?_ (by repeat (first | exact FrLe.nil | refine FrLe.cons rfl ?_)) ?_ ?_
 ·exact Nat.zero_le _
 ·rw [List.take_zero, Nat.sub_zero]
  exact Ent.refl _
 ·rintro k hk
  refine Qb (Qb (Qa (Qd rfl rfl (Qd rfl rfl (QK rfl rfl (Q6 rfl rfl rfl (Qd rfl rfl (QH rfl rfl rfl (fun hg1 => ?_) (fun hg1 => ?_)))))))))
  ·have hg1 := of_decide_eq_true hg1
   refine Qd rfl rfl (Qf rfl rfl (Qd rfl rfl (Qf rfl rfl (QK rfl rfl (Qf rfl rfl (Q6 rfl rfl rfl (Qx rfl rfl rfl (WpL.nil (Qm rfl (fun h1 => ?_) (fun h1 => ?_))))))))))
   ·have hlt : k < xs.length := by omega
    have hlc : k < ch.toNat := by omega
    refine Wp.skip (Qb (Wp.block ?_))
    apply Xe (fB := []) mixed [(11, false)] (by kernel_rfl)
    apply Q9 [⟨0, 24, _, [], false⟩, ⟨1, 25, _, [], false⟩, ⟨2, 26, _, [], false⟩, ⟨3, 27, _, [], false⟩, ⟨4, 28, _, [2, 3], false⟩, ⟨5, 29, _, [4], false⟩, ⟨6, 30, _, [], false⟩, ⟨7, 31, _, [6], false⟩, ⟨8, 32, _, [7], false⟩, ⟨9, 33, _, [5, 8], false⟩, ⟨10, 34, _, [0, 1, 2, 3, 4, 5, 6, 7, 8, 9], false⟩] [] [0, 1, 2, 3, 4, 5, 6, 7, 8, 9, 10] [] (.inr rfl) rfl rfl rfl (by kernel_rfl) rfl rfl rfl
    ·refine AllF.cons rfl rfl rfl rfl ?_ ?_
     ·exact Qd rfl rfl (Ql rfl)
     refine AllF.cons rfl rfl rfl rfl ?_ ?_
     ·exact Qd rfl rfl (Ql rfl)
     refine AllF.cons rfl rfl rfl rfl ?_ ?_
     ·exact Qd rfl rfl (Ql rfl)
     refine AllF.cons rfl rfl rfl rfl ?_ ?_
     ·exact Qd rfl rfl (Ql rfl)
     refine AllF.cons rfl rfl rfl rfl ?_ ?_
     ·refine Q3 k rfl rfl rfl hA (by (repeat (first | exact Ent.refl _ | refine Ent.drop ?_))) rfl (by omega) (by rw [QX]; omega) ?_
      exact Ql rfl
     refine AllF.cons rfl rfl rfl rfl ?_ ?_
     ·refine Xb rfl rfl hA (by (repeat (first | exact Ent.refl _ | refine Ent.drop ?_))) (XX xs hlt) ?_
      exact Ql rfl
     refine AllF.cons rfl rfl rfl rfl ?_ ?_
     ·exact Qj (o2 := 1) rfl rfl rfl (Ql rfl)
     refine AllF.cons rfl rfl rfl rfl ?_ ?_
     ·refine Qo rfl rfl (by rfl) ?_
      exact Ql rfl
     refine AllF.cons rfl rfl rfl rfl ?_ ?_
     ·refine QE rfl rfl rfl (Qt (by omega) (by omega)) ?_
      exact Ql rfl
     refine AllF.cons rfl rfl rfl rfl ?_ ?_
     ·refine Qg rfl rfl (by repeat' constructor) (Yh _ _ (hr _ (List.getElem_mem hlt)).1 (hr _ (List.getElem_mem hlt)).2 (by omega)) ?_
      rintro _ _ ⟨rfl, rfl⟩
      simp only [Qr]
      exact WpL.nil ⟨rfl, rfl, rfl, by exact Ent.refl _⟩
     refine AllF.cons rfl rfl rfl rfl ?_ ?_
     ·refine s_ixA (k := k) rfl rfl rfl (by omega) ?_
      exact Ql rfl
     exact AllF.nil
    ·refine s_stk rfl rfl rfl (by simp [QX]; omega) ?_
     rw [gd_step2 hlt hlc]
     refine WpL.nil ⟨rfl, rfl, ?_⟩
     apply GoR.nil [] (.inr rfl) rfl rfl
     ·exact AllF.nil
     ·refine Qa (Qd rfl rfl (QE rfl rfl rfl (Qt (by omega) (by omega)) ?_))
      refine Qe rfl rfl (WpL.nil (Qy (k + 1) ?_ ?_ (by ((repeat (first | exact Top.refl | refine Top.push rfl ?_)); done)) (by repeat (first | exact FrLe.nil | refine FrLe.cons rfl ?_)) ?_))
      ·omega
      ·omega
      ·exact Ent.refl _
   ·refine QL (Qb (Qa (Qd rfl rfl ?_)))
    have hke : k = ch.toNat := by omega
    rw [show QU ((xs.take k).map (fun x => QM x (mx + 1))) ++ List.replicate (ch.toNat - k) (Value.int .i64 0) = QU ys by rw [hke, Nat.sub_self, hys]; simp, ← hyl]
    refine Qg rfl rfl (by repeat' constructor) (rPack_spec [_] _ _ ys (RdsL.blk (by rw [List.drop_zero, QX, ← QX, List.take_length])) (by omega)) ?_
    rintro _ _ ⟨rfl, rfl⟩
    simp only [Qr]
    refine Qd rfl rfl (QC rfl rfl rfl (QC rfl rfl rfl (Qe rfl rfl (Qe rfl rfl (WpL.nil (Qb (Qa (Qd rfl rfl (Qe rfl rfl (WpL.nil (Qh ?_)))))))))))
    apply RetQ.mk
    ·exact (Res.one rfl rfl)
    ·exact ⟨rfl, rfl⟩
    ·(repeat (first | exact Ent.refl _ | refine Ent.drop ?_))
  ·have hg1 := of_decide_eq_false hg1
   refine Qc rfl rfl rfl (by decide) (Qc rfl rfl rfl (by decide) (Qc rfl rfl rfl (by decide) (Qq rfl rfl rfl (WpL.nil (QV rfl (QL (Qb (Qa (Qd rfl rfl ?_)))))))))
   have hke : k = ch.toNat := by omega
   rw [show QU ((xs.take k).map (fun x => QM x (mx + 1))) ++ List.replicate (ch.toNat - k) (Value.int .i64 0) = QU ys by rw [hke, Nat.sub_self, hys]; simp, ← hyl]
   refine Qg rfl rfl (by repeat' constructor) (rPack_spec [_] _ _ ys (RdsL.blk (by rw [List.drop_zero, QX, ← QX, List.take_length])) (by omega)) ?_
   rintro _ _ ⟨rfl, rfl⟩
   simp only [Qr]
   refine Qd rfl rfl (QC rfl rfl rfl (QC rfl rfl rfl (Qe rfl rfl (Qe rfl rfl (WpL.nil (Qb (Qa (Qd rfl rfl (Qe rfl rfl (WpL.nil (Qh ?_)))))))))))
   apply RetQ.mk
   ·exact (Res.one rfl rfl)
   ·exact ⟨rfl, rfl⟩
   ·(repeat (first | exact Ent.refl _ | refine Ent.drop ?_))

end Go.Proofs.YtggamdlpiejbiaaGreat
namespace Go.Proofs.YtggamdlpiejbiaaGreat
open Go.RowKit Go.Shelf


def selM (mx : Int) : Int := if mx = 0 ∨ mx = 1 then 1 else if mx = 2 then 2 else if mx = 3 then 255 else 300
theorem selM_at {mx : Int} (h0 : 0 ≤ mx) (h1 : mx < 5) : ([Value.int .i64 1, .int .i64 1, .int .i64 2, .int .i64 255, .int .i64 300])[mx.toNat]? = some (.int .i64 (selM mx)) := by
  obtain rfl | rfl | rfl | rfl | rfl : mx = 0 ∨ mx = 1 ∨ mx = 2 ∨ mx = 3 ∨ mx = 4 := by omega
  all_goals rfl
theorem selM_bd (mx : Int) : 1 ≤ selM mx ∧ selM mx ≤ 300 := by
  unfold selM
  repeat' split
  all_goals omega
/-- What is made of any numbers: an image that may be. -/
def YH (most : Int) (m : Img) : Prop := (m.c = 1 ∨ m.c = 3) ∧ (1 ≤ m.m ∧ m.m ≤ 65535) ∧ (1 ≤ m.w ∧ m.w ≤ most) ∧ (1 ≤ m.h ∧ m.h ≤ most) ∧ (m.px.length : Int) = m.w * m.h ∧ ∀ p ∈ m.px, Can m.c m.m p ∧ 0 ≤ p ∧ p < 18446744073709551616
structure GdX where
  (k : Nat) (out : List Int) (a : Option Addr) (c : Nat)

theorem rForm_spec (three : Bool) (mx w h : Int) (ga : Option Addr) (gc gn : Nat) (hmx : -9223372036854775808 ≤ mx ∧ mx < 9223372036854775808) (_hgw : -9223372036854775808 ≤ w ∧ w < 9223372036854775808) (_hgh : -9223372036854775808 ≤ h ∧ h < 9223372036854775808) : Fn Tryz.prog 71 #[.agg #[.bool three, .int .i64 mx, .int .i64 w, .int .i64 h, .slice ga gn gc]] [] (fun v l => ∃ C M, (C = 1 ∨ C = 3) ∧ (1 ≤ M ∧ M ≤ 65535) ∧ v = .agg #[.int .i64 C, .int .i64 M] ∧ l = []) := by
 have hab := YC (x := mx) (m := 65535) (by omega)
 have hsm := selM_bd mx
 refine Qk (vs := [.agg #[.bool three, .int .i64 mx, .int .i64 w, .int .i64 h, .slice ga gn gc]]) Tryz.func71 rfl Tryz.ntmps71 rfl (Qb (Qa (QP rfl rfl rfl ?_)))
 intro g1
 refine XK rfl ?_
 intro g2
 refine WpL.nil (Qb (Qa ?_))
 refine s_bs [Value.int .i64 1, .int .i64 1, .int .i64 2, .int .i64 255, .int .i64 300] rfl rfl rfl (by intro v hv; simp only [List.mem_cons, List.not_mem_nil, or_false] at hv; rcases hv with rfl | rfl | rfl | rfl | rfl <;> rfl) (by decide) (fun _ _ => rfl) ?_
 intro g5
 refine Qe rfl rfl (WpL.nil (Qb (Qa (Qj (o2 := 1) rfl rfl rfl (Qo rfl rfl (by rfl) ?_)))))
 refine Qg rfl rfl (by repeat' constructor) (Yh _ _ hmx.1 hmx.2 (by omega)) ?_
 rintro _ _ ⟨rfl, rfl⟩
 simp only [Qr]
 refine QE rfl rfl rfl (Qt (by omega) (by omega)) ?_
 refine XN rfl rfl ?_
 refine XK rfl ?_
 intro g3
 refine QY rfl rfl rfl (by rfl) rfl ?_
 refine WpL.nil (Qb (Qb (Qa (Qj (o2 := 1) rfl rfl rfl (Qo rfl rfl (by rfl) ?_)))))
 refine Zo rfl rfl rfl (Qd rfl rfl (QH rfl rfl rfl (fun hg1 => ?_) (fun hg1 => ?_)))
 ·have hg1 := of_decide_eq_true hg1
  refine Qj (o2 := 1) rfl rfl rfl (Qf rfl rfl (Qo rfl rfl (by rfl) ?_))
  refine Qf rfl rfl (Q6 rfl rfl rfl (Qx rfl rfl rfl (WpL.nil (Qm rfl (fun h0 => ?_) (fun h0 => ?_)))))
  ·refine Qa (Qd rfl rfl (Qj (o2 := 1) rfl rfl rfl (Qo rfl rfl (by rfl) ?_)))
   refine Q3 mx.toNat rfl rfl rfl (RdsL.blk (o := 0) (xs := [Value.int .i64 1, .int .i64 1, .int .i64 2, .int .i64 255, .int .i64 300]) rfl) (by exact Take.ent' (by repeat' constructor)) (by omega) (by omega) (by simp only [List.length_cons, List.length_nil]; omega) ?_
   refine Xb rfl rfl (RdsL.blk (o := 0) (xs := [Value.int .i64 1, .int .i64 1, .int .i64 2, .int .i64 255, .int .i64 300]) rfl) (by exact Take.ent' (by repeat' constructor)) (selM_at (by omega) (by omega)) ?_
   refine Qj (o2 := 1) rfl rfl rfl (Q0 rfl rfl rfl (WpL.nil (Qb (Qb (Qa (Qj (o2 := 0) rfl rfl rfl (Qo rfl rfl (by rfl) ?_)))))))
   refine WpL.nil (XC rfl (fun h1 => ?_) (fun h1 => ?_))
   ·refine Qa (Qj (o2 := 0) rfl rfl rfl (Q0 rfl rfl rfl (WpL.nil (Qb (Qa ?_)))))
    refine Qz (vs := [_, _]) rfl rfl rfl (by rfl) ?_
    refine QY rfl rfl rfl (by rfl) rfl ?_
    refine WpL.nil (Qh ?_)
    apply RetQ.mk
    ·exact (XF rfl rfl (by rfl))
    ·exact ⟨3, _, .inr rfl, by omega, rfl, rfl⟩
    ·exact Ent.nil _
   ·refine Wp.skip (Qb (Qa ?_))
    refine Qz (vs := [_, _]) rfl rfl rfl (by rfl) ?_
    refine QY rfl rfl rfl (by rfl) rfl ?_
    refine WpL.nil (Qh ?_)
    apply RetQ.mk
    ·exact (XF rfl rfl (by rfl))
    ·exact ⟨1, _, .inl rfl, by omega, rfl, rfl⟩
    ·exact Ent.nil _
  ·refine Wp.skip (Qb (Qb (Qa (Qj (o2 := 0) rfl rfl rfl (Qo rfl rfl (by rfl) ?_)))))
   refine WpL.nil (XC rfl (fun h1 => ?_) (fun h1 => ?_))
   ·refine Qa (Qj (o2 := 0) rfl rfl rfl (Q0 rfl rfl rfl (WpL.nil (Qb (Qa ?_)))))
    refine Qz (vs := [_, _]) rfl rfl rfl (by rfl) ?_
    refine QY rfl rfl rfl (by rfl) rfl ?_
    refine WpL.nil (Qh ?_)
    apply RetQ.mk
    ·exact (XF rfl rfl (by rfl))
    ·exact ⟨3, _, .inr rfl, by omega, rfl, rfl⟩
    ·exact Ent.nil _
   ·refine Wp.skip (Qb (Qa ?_))
    refine Qz (vs := [_, _]) rfl rfl rfl (by rfl) ?_
    refine QY rfl rfl rfl (by rfl) rfl ?_
    refine WpL.nil (Qh ?_)
    apply RetQ.mk
    ·exact (XF rfl rfl (by rfl))
    ·exact ⟨1, _, .inl rfl, by omega, rfl, rfl⟩
    ·exact Ent.nil _
 ·have hg1 := of_decide_eq_false hg1
  refine Qc rfl rfl rfl (by decide) (Qc rfl rfl rfl (by decide) (Qq rfl rfl rfl (WpL.nil (QV rfl (Wp.skip (Qb (Qb (Qa (Qj (o2 := 0) rfl rfl rfl (Qo rfl rfl (by rfl) ?_))))))))))
  refine WpL.nil (XC rfl (fun h1 => ?_) (fun h1 => ?_))
  ·refine Qa (Qj (o2 := 0) rfl rfl rfl (Q0 rfl rfl rfl (WpL.nil (Qb (Qa ?_)))))
   refine Qz (vs := [_, _]) rfl rfl rfl (by rfl) ?_
   refine QY rfl rfl rfl (by rfl) rfl ?_
   refine WpL.nil (Qh ?_)
   apply RetQ.mk
   ·exact (XF rfl rfl (by rfl))
   ·exact ⟨3, _, .inr rfl, by omega, rfl, rfl⟩
   ·exact Ent.nil _
  ·refine Wp.skip (Qb (Qa ?_))
   refine Qz (vs := [_, _]) rfl rfl rfl (by rfl) ?_
   refine QY rfl rfl rfl (by rfl) rfl ?_
   refine WpL.nil (Qh ?_)
   apply RetQ.mk
   ·exact (XF rfl rfl (by rfl))
   ·exact ⟨1, _, .inl rfl, by omega, rfl, rfl⟩
   ·exact Ent.nil _


theorem can_good {C M : Int} {xs : List Int} (hC : C = 1 ∨ C = 3) (hM : 1 ≤ M ∧ M ≤ 65535) (hl : (xs.length : Int) = C) (hx : ∀ x ∈ xs, 0 ≤ x ∧ x ≤ M) : Can C M (Xy xs).1 ∧ 0 ≤ (Xy xs).1 ∧ (Xy xs).1 < 18446744073709551616 := by
  have hs : ∀ n ∈ xs, smp n := fun n hn => by have := hx n hn; unfold smp; omega
  have hu : Qp (Xy xs).1 = xs := unpack_pack (by omega) hs
  exact ⟨⟨by rw [hu]; exact hl, by rw [hu], by rw [hu]; exact hx⟩, pack_bd (by omega) hs⟩

end Go.Proofs.YtggamdlpiejbiaaGreat
namespace Go.Proofs.YtggamdlpiejbiaaGreat
open Go.RowKit Go.Shelf


theorem rds_blk3 {g T : Nat} {a b c : Int} : RdsL [QB g [.int .i64 a, .int .i64 b, .int .i64 c] T] (some ⟨g, 0, none⟩) (QU [a, b, c]) := RdsL.blk rfl
theorem gx_good {C M z : Int} (hC : C = 1 ∨ C = 3) (hM : 1 ≤ M ∧ M ≤ 65535) : Can C M (Xy ((([QM z 3, QM z 3 / 2, 0] : List Int).take C.toNat).map (fun x => QM x (M + 1)))).1 ∧ 0 ≤ (Xy ((([QM z 3, QM z 3 / 2, 0] : List Int).take C.toNat).map (fun x => QM x (M + 1)))).1 ∧ (Xy ((([QM z 3, QM z 3 / 2, 0] : List Int).take C.toNat).map (fun x => QM x (M + 1)))).1 < 18446744073709551616 := by
  refine can_good hC hM ?_ fun x hx => ?_
  · rw [List.length_map, List.length_take]
    rcases hC with rfl | rfl <;> rfl
  · obtain ⟨y, _, rfl⟩ := List.mem_map.1 hx
    have := YC (x := y) (m := M + 1) (by omega)
    omega

set_option maxHeartbeats 4000000 in
theorem rGood10_spec (A0 : HP) (three : Bool) (mx w h : Int) (ga : Option Addr) (gc : Nat) (zs : List Int) (hz : ∀ x ∈ zs, -9223372036854775808 ≤ x ∧ x < 9223372036854775808) (hzl : zs.length ≤ 9223372036854775807) (hA : RdsL [A0] ga (QU zs)) (hmx : -9223372036854775808 ≤ mx ∧ mx < 9223372036854775808) (hgw : -9223372036854775808 ≤ w ∧ w < 9223372036854775808) (hgh : -9223372036854775808 ≤ h ∧ h < 9223372036854775808) (most : Int) (hmo : 1 ≤ most ∧ most ≤ 100) : Fn Tryz.prog 35 #[.agg #[.bool three, .int .i64 mx, .int .i64 w, .int .i64 h, .slice ga zs.length gc], .int .i64 most] [A0] (fun v l => ∃ m a c, YH most m ∧ v = .agg #[.int .i64 m.c, .int .i64 m.m, .int .i64 m.w, .int .i64 m.h, .slice a m.px.length c] ∧ l = [QG 92 1 a c m.px.length (Q5 m.px), A0]) := by
 have haw := YC (x := w) (m := most) (by omega)
 have hah := YC (x := h) (m := most) (by omega)
 have hWH : (1 + QM w most) * (1 + QM h most) ≤ 100 * 100 := Int.mul_le_mul (by omega) (by omega) (by omega) (by omega)
 have hWH0 : 0 ≤ (1 + QM w most) * (1 + QM h most) := Int.mul_nonneg (by omega) (by omega)
 have hz30 := YC (x := 0) (m := 3) (by omega)
 refine Qk (vs := [.agg #[.bool three, .int .i64 mx, .int .i64 w, .int .i64 h, .slice ga zs.length gc], .int .i64 most]) Tryz.func35 rfl Tryz.ntmps35 rfl (Qb (Qa (QP rfl rfl rfl ?_)))
 intro gG
 refine XK rfl ?_
 intro gR
 refine WpL.nil (Qb (Qa ?_))
 refine Qz (vs := [_, _, _, _, _]) rfl rfl rfl (by rfl) ?_
 refine Qg rfl rfl (by repeat' constructor) (rForm_spec _ _ _ _ _ _ _ hmx hgw hgh) ?_
 rintro _ _ ⟨C, M, hC, hM, rfl, rfl⟩
 simp only [Qr]
 refine XK rfl ?_
 intro gF
 refine QY rfl rfl rfl (by rfl) rfl ?_
 refine WpL.nil (Qb ?_)
 apply Wp.drawGA (fB := []) mixed 11 [(11, true)] rfl rfl (by kernel_rfl)
 apply GoR.segT [⟨0, 12, _, [], false⟩, ⟨1, 13, _, [0], false⟩, ⟨2, 14, _, [], false⟩, ⟨3, 15, _, [1, 2], false⟩, ⟨4, 16, _, [3], false⟩, ⟨5, 17, _, [], false⟩, ⟨6, 18, _, [5], false⟩, ⟨7, 19, _, [], false⟩, ⟨8, 20, _, [3, 6, 7], false⟩, ⟨9, 21, _, [8], false⟩, ⟨10, 22, _, [4, 9], false⟩] [] [0, 1, 2, 3, 4, 5, 6, 7, 8, 9, 10] [] (.inr rfl) rfl rfl rfl (by kernel_rfl) rfl rfl rfl rfl
 ·refine AllF.cons rfl rfl rfl rfl ?_ ?_
  ·exact Qj (o2 := 2) rfl rfl rfl (Ql rfl)
  refine AllF.cons rfl rfl rfl rfl ?_ ?_
  ·refine Qo rfl rfl (by rfl) ?_
   exact Ql rfl
  refine AllF.cons rfl rfl rfl rfl ?_ ?_
  ·exact Qd rfl rfl (Ql rfl)
  refine AllF.cons rfl rfl rfl rfl ?_ ?_
  ·refine Qg rfl rfl (by repeat' constructor) (Yh _ _ (by omega) (by omega) (by omega)) ?_
   rintro _ _ ⟨rfl, rfl⟩
   simp only [Qr]
   exact WpL.nil ⟨rfl, rfl, rfl, by exact Ent.refl _⟩
  refine AllF.cons rfl rfl rfl rfl ?_ ?_
  ·refine QE rfl rfl rfl (Qt (by omega) (by omega)) ?_
   exact Ql rfl
  refine AllF.cons rfl rfl rfl rfl ?_ ?_
  ·exact Qj (o2 := 3) rfl rfl rfl (Ql rfl)
  refine AllF.cons rfl rfl rfl rfl ?_ ?_
  ·refine Qo rfl rfl (by rfl) ?_
   exact Ql rfl
  refine AllF.cons rfl rfl rfl rfl ?_ ?_
  ·exact Qd rfl rfl (Ql rfl)
  refine AllF.cons rfl rfl rfl rfl ?_ ?_
  ·refine Qg rfl rfl (by repeat' constructor) (Yh _ _ (by omega) (by omega) (by omega)) ?_
   rintro _ _ ⟨rfl, rfl⟩
   simp only [Qr]
   exact WpL.nil ⟨rfl, rfl, rfl, by exact Ent.refl _⟩
  refine AllF.cons rfl rfl rfl rfl ?_ ?_
  ·refine QE rfl rfl rfl (Qt (by omega) (by omega)) ?_
   exact Ql rfl
  refine AllF.cons rfl rfl rfl rfl ?_ ?_
  ·refine XN rfl rfl ?_
   exact Ql rfl
  exact AllF.nil
 ·intro gM
  refine QY rfl rfl rfl (by rfl) rfl ?_
  refine WpL.nil ⟨rfl, rfl, ?_⟩
  apply GoR.nil [] (.inr rfl) rfl rfl
  ·exact AllF.nil
  ·refine QT (gr := [(0, _), (1, _), (2, _), (4, _), (5, _), (6, _)]) (FrLe.cons rfl (FrLe.cons rfl (FrLe.cons rfl (FrLe.cons rfl (FrLe.cons rfl (FrLe.cons rfl FrLe.nil)))))) ?_
   refine Qb (Qb (Qa (Qe rfl rfl (WpL.nil (Wp.block ?_)))))
   refine Wp.loopD (σ := GdX) (fun x => (x.k : Int) ≤ (1 + QM w most) * (1 + QM h most) ∧ x.out.length = x.k ∧ ∀ p ∈ x.out, Can C M p ∧ 0 ≤ p ∧ p < 18446744073709551616) [7, 8, 9, 23, 24, 25, 26, 27, 28, 29, 30, 31, 32, 33, 34, 35, 36, 37, 38, 39, 40, 41, 42, 43, 44, 45, 46, 47, 48, 49, 50, 51, 52, 53, 54, 55, 56, 57] (fun x => [(7, .int .i64 (x.k : Int))]) (fun x => [QG 92 1 x.a x.c x.out.length (Q5 x.out), QB gM [.int .i64 (1 + QM w most), .int .i64 (1 + QM h most), .slice x.a x.out.length x.c] 69, QB gF [.int .i64 C, .int .i64 M] 48, QB gR [.int .i64 0, .int .i64 0, .int .i64 0, .int .i64 0, .slice none 0 0] 71, QB gG [.bool three, .int .i64 mx, .int .i64 w, .int .i64 h, .slice ga zs.length gc] 74, A0]) (fun x => ((1 + QM w most) * (1 + QM h most)).toNat - x.k) ⟨0, [], none, 0⟩ ?_ (by repeat (first | exact FrLe.nil | refine FrLe.cons rfl ?_)) ?_ ?_
   ·exact ⟨by simpa using hWH0, rfl, by simp⟩
   ·exact Ent.own_nil (Ent.refl _)
   ·rintro ⟨k, out, a, c⟩ ⟨hk, hol, hcan⟩
    dsimp only at hk hol hcan ⊢
    refine Qb (Qb (Qa (Qd rfl rfl (Qj (o2 := 0) rfl rfl rfl (Qo rfl rfl (by rfl) ?_)))))
    refine Qj (o2 := 1) rfl rfl rfl (Qo rfl rfl (by rfl) ?_)
    refine Xz rfl rfl rfl (Qt (by omega) (by omega)) ?_
    refine Q6 rfl rfl rfl (WpL.nil (Qm rfl (fun h1 => ?_) (fun h1 => ?_)))
    ·refine Wp.skip (Qb (Wp.block ?_))
     refine Qb (Qa (Qe rfl rfl (WpL.nil (Qb (Qb (Qa (Qj (o2 := 4) rfl rfl rfl (Qo rfl rfl (by rfl) ?_))))))))
     refine QK rfl rfl (s_gt rfl rfl rfl (WpL.nil (Qm rfl (fun h2 => ?_) (fun h2 => ?_))))
     ·have hix0 := Int.emod_nonneg (k : Int) (show (zs.length : Int) ≠ 0 by omega)
      have hix1 := Int.emod_lt_of_pos (k : Int) (show (0 : Int) < zs.length by omega)
      have hix : ((k : Int) % zs.length).toNat < zs.length := by omega
      have hzi := hz _ (List.getElem_mem hix)
      have hz3 := YC (x := zs[((k : Int) % zs.length).toNat]) (m := 3) (by omega)
      apply QS mixed [⟨36, _, []⟩, ⟨37, _, [0]⟩, ⟨38, _, []⟩, ⟨39, _, []⟩, ⟨40, _, [3]⟩, ⟨41, _, [4]⟩, ⟨42, _, [2, 5]⟩, ⟨43, _, [1, 6]⟩, ⟨44, _, [7]⟩, ⟨8, _, [8, 0, 1, 2, 3, 4, 5, 6, 7]⟩] rfl
      ·refine AllObs.mk ?_ ?_
       ·exact Qj (o2 := 4) rfl rfl rfl (Ql rfl)
       refine AllObs.mk ?_ ?_
       ·refine Qo rfl rfl (by rfl) ?_
        exact Ql rfl
       refine AllObs.mk ?_ ?_
       ·exact Qd rfl rfl (Ql rfl)
       refine AllObs.mk ?_ ?_
       ·exact Qj (o2 := 4) rfl rfl rfl (Ql rfl)
       refine AllObs.mk ?_ ?_
       ·refine Qo rfl rfl (by rfl) ?_
        exact Ql rfl
       refine AllObs.mk ?_ ?_
       ·exact QK rfl rfl (WpL.nil ⟨rfl, rfl, rfl, by exact Ent.refl _⟩)
       refine AllObs.mk ?_ ?_
       ·refine Y6 rfl rfl rfl (by omega) (by omega) ?_
        exact Ql rfl
       refine AllObs.mk ?_ ?_
       ·refine Q3 ((k : Int) % zs.length).toNat rfl rfl rfl hA (by exact Take.ent' (by repeat' constructor)) (by omega) hix (by rw [QX]; exact hix) ?_
        exact Ql rfl
       refine AllObs.mk ?_ ?_
       ·refine Xb rfl rfl hA (by exact Take.ent' (by repeat' constructor)) (XX zs hix) ?_
        exact Ql rfl
       refine AllObs.mk ?_ ?_
       ·exact Qe rfl rfl (Ql rfl)
       exact AllObs.nil
      ·refine Qb (Qa (Qd rfl rfl (Qg rfl rfl (by repeat' constructor) (Yh _ _ (by omega) (by omega) (by omega)) ?_)))
       rintro _ _ ⟨rfl, rfl⟩
       simp only [Qr]
       refine Qe rfl rfl (WpL.nil (QT (gr := [(0, _), (1, _), (2, _), (4, _), (5, _), (6, _), (7, _), (9, _)]) (FrLe.cons rfl (FrLe.cons rfl (FrLe.cons rfl (FrLe.cons rfl (FrLe.cons rfl (FrLe.cons rfl (FrLe.cons rfl (FrLe.cons rfl FrLe.nil)))))))) ?_))
       apply XR (fB := [QB gM [.int .i64 (1 + QM w most), .int .i64 (1 + QM h most), .slice a out.length c] 69, QB gF [.int .i64 C, .int .i64 M] 48]) [0, 1, 2, 3, 4, 6, 5, 7, 8, 9, 10, 11] [47, 48, 49, 50, 51, 53, 52, 54, 55, 56, 57] 12 mixed (by kernel_rfl) [(6, false), (1, false), (0, false), (1, false)] (by kernel_rfl) (by kernel_rfl) (by kernel_rfl)
       apply Q2 [⟨0, 47, _, [], true⟩, ⟨1, 48, _, [0], true⟩, ⟨2, 49, _, [], false⟩, ⟨3, 50, _, [], false⟩, ⟨4, 51, _, [3], false⟩, ⟨5, 53, _, [], true⟩] [] [2, 3, 4] [54, 55, 56, 57] [54, 55, 56, 57, 47, 48, 53] (.inl ⟨_, by repeat' constructor⟩) rfl rfl rfl (by kernel_rfl) rfl (by kernel_rfl) rfl rfl
       ·refine Qw 0 [] rfl rfl rfl rfl (by kernel_rfl) rfl ?_ ?_
        ·exact Qj (o2 := 2) rfl rfl rfl (Ql rfl)
        refine Qw 1 [0] rfl rfl rfl rfl (by kernel_rfl) rfl ?_ ?_
        ·refine Qo rfl rfl (by rfl) ?_
         exact Ql rfl
        refine Qn 2 [] rfl rfl rfl rfl (by kernel_rfl) rfl ?_ ?_
        ·exact Qd rfl rfl (Ql rfl)
        refine Qn 3 [] rfl rfl rfl rfl (by kernel_rfl) rfl ?_ ?_
        ·exact Qd rfl rfl (Ql rfl)
        refine Qn 4 [3] rfl rfl rfl rfl (by kernel_rfl) rfl ?_ ?_
        ·refine Y5 rfl rfl rfl (by omega) (by omega) (Qt (by omega) (by omega)) ?_
         exact Ql rfl
        refine Qw 5 [] rfl rfl rfl rfl (by kernel_rfl) rfl ?_ ?_
        ·refine Qz (vs := [_, _]) rfl rfl rfl (by rfl) ?_
         exact Ql rfl
        exact AllF.nil
       ·refine s_bs3 rfl rfl rfl rfl rfl rfl rfl rfl ?_
        intro g5
        refine WpL.nil ⟨rfl, rfl, ?_⟩
        apply Q2 [⟨7, 54, _, [5, 6], false⟩] [0, 1, 5] [5, 7] [56, 57] [56, 57, 47, 48] (.inl ⟨_, by repeat' constructor⟩) rfl rfl rfl (by kernel_rfl) rfl (by kernel_rfl) rfl rfl
        ·refine Qn 7 [5, 6] rfl rfl rfl rfl (by kernel_rfl) rfl ?_ ?_
         ·refine Qg rfl rfl (by repeat' constructor) (GoodPx3_spec [_] _ _ [_, _, 0] C M rds_blk3 (by simp only [List.mem_cons, List.not_mem_nil, or_false]; rintro x (rfl | rfl | rfl) <;> omega) (by simp only [List.length_cons, List.length_nil]; omega) hC hM.1 hM.2) ?_
          rintro _ _ ⟨rfl, rfl⟩
          simp only [Qr]
          exact WpL.nil ⟨rfl, rfl, rfl, by exact Ent.refl _⟩
         exact AllF.nil
        ·refine Y4 rfl rfl rfl rfl ?_
         intro g6
         refine WpL.nil ⟨rfl, rfl, ?_⟩
         apply Q2 [] [0, 1] [0, 1] [57] [57] (.inl ⟨_, by repeat' constructor⟩) rfl rfl rfl (by kernel_rfl) rfl (by kernel_rfl) rfl rfl
         ·exact AllF.nil
         ·(refine X9 rfl rfl rfl (by repeat' constructor) (by rfl) (by rfl) (by rfl) (by rfl) (by omega) (by omega) ?_; intro a56 c56; rw [Zw, show out.length + 1 = (out ++ [(Xy ((([QM (zs[((k : Int) % zs.length).toNat]'hix) 3, QM (zs[((k : Int) % zs.length).toNat]'hix) 3 / 2, 0] : List Int).take C.toNat).map (fun x => QM x (M + 1)))).1]).length from by simp])
          refine WpL.nil ⟨rfl, rfl, ?_⟩
          apply Q2 [⟨10, 57, _, [0, 1, 2, 3, 4, 5, 6, 7, 8, 9], false⟩] [] [10] [] [] (.inr rfl) rfl rfl rfl (by kernel_rfl) rfl (by kernel_rfl) rfl rfl
          ·refine Qn 10 [0, 1, 2, 3, 4, 5, 6, 7, 8, 9] rfl rfl rfl rfl (by kernel_rfl) rfl ?_ ?_
           ·exact Qj (o2 := 2) rfl rfl rfl (Ql rfl)
           exact AllF.nil
          ·refine Q0 rfl rfl rfl (WpL.nil ⟨rfl, rfl, ?_⟩)
           apply XP [] 12 (by kernel_rfl) (.inr rfl) rfl rfl
           ·exact AllF.nil
           ·refine Qa (Qd rfl rfl (QE rfl rfl rfl (Qt (by omega) (by omega)) ?_))
            refine Qe rfl rfl (WpL.nil (Qy (⟨k + 1, out ++ [(Xy ((([QM (zs[((k : Int) % zs.length).toNat]'hix) 3, QM (zs[((k : Int) % zs.length).toNat]'hix) 3 / 2, 0] : List Int).take C.toNat).map (fun x => QM x (M + 1)))).1], a56, c56⟩ : GdX) ?_ ?_ (by exact Top.le (by repeat (first | exact FrLe.nil | refine FrLe.cons rfl ?_))) (by repeat (first | exact FrLe.nil | refine FrLe.cons rfl ?_)) ?_))
            ·refine ⟨by simp only; omega, by simp; omega, ?_⟩
             intro p hp
             rcases List.mem_append.1 hp with hp | hp
             ·exact hcan p hp
             ·have := List.mem_singleton.1 hp
              subst this
              exact gx_good hC hM
            ·simp only; omega
            ·exact Take.ent' (by repeat' constructor)
     ·refine Wp.skip (Qb (Qa (Qd rfl rfl (Qg rfl rfl (by repeat' constructor) (Yh _ _ (by omega) (by omega) (by omega)) ?_))))
      rintro _ _ ⟨rfl, rfl⟩
      simp only [Qr]
      refine Qe rfl rfl (WpL.nil (QT (gr := [(0, _), (1, _), (2, _), (4, _), (5, _), (6, _), (7, _), (9, _)]) (FrLe.cons rfl (FrLe.cons rfl (FrLe.cons rfl (FrLe.cons rfl (FrLe.cons rfl (FrLe.cons rfl (FrLe.cons rfl (FrLe.cons rfl FrLe.nil)))))))) ?_))
      apply XR (fB := [QB gM [.int .i64 (1 + QM w most), .int .i64 (1 + QM h most), .slice a out.length c] 69, QB gF [.int .i64 C, .int .i64 M] 48]) [0, 1, 2, 3, 4, 6, 5, 7, 8, 9, 10, 11] [47, 48, 49, 50, 51, 53, 52, 54, 55, 56, 57] 12 mixed (by kernel_rfl) [(6, false), (1, false), (0, false), (1, false)] (by kernel_rfl) (by kernel_rfl) (by kernel_rfl)
      apply Q2 [⟨0, 47, _, [], true⟩, ⟨1, 48, _, [0], true⟩, ⟨2, 49, _, [], false⟩, ⟨3, 50, _, [], false⟩, ⟨4, 51, _, [3], false⟩, ⟨5, 53, _, [], true⟩] [] [2, 3, 4] [54, 55, 56, 57] [54, 55, 56, 57, 47, 48, 53] (.inl ⟨_, by repeat' constructor⟩) rfl rfl rfl (by kernel_rfl) rfl (by kernel_rfl) rfl rfl
      ·refine Qw 0 [] rfl rfl rfl rfl (by kernel_rfl) rfl ?_ ?_
       ·exact Qj (o2 := 2) rfl rfl rfl (Ql rfl)
       refine Qw 1 [0] rfl rfl rfl rfl (by kernel_rfl) rfl ?_ ?_
       ·refine Qo rfl rfl (by rfl) ?_
        exact Ql rfl
       refine Qn 2 [] rfl rfl rfl rfl (by kernel_rfl) rfl ?_ ?_
       ·exact Qd rfl rfl (Ql rfl)
       refine Qn 3 [] rfl rfl rfl rfl (by kernel_rfl) rfl ?_ ?_
       ·exact Qd rfl rfl (Ql rfl)
       refine Qn 4 [3] rfl rfl rfl rfl (by kernel_rfl) rfl ?_ ?_
       ·refine Y5 rfl rfl rfl (by omega) (by omega) (Qt (by omega) (by omega)) ?_
        exact Ql rfl
       refine Qw 5 [] rfl rfl rfl rfl (by kernel_rfl) rfl ?_ ?_
       ·refine Qz (vs := [_, _]) rfl rfl rfl (by rfl) ?_
        exact Ql rfl
       exact AllF.nil
      ·refine s_bs3 rfl rfl rfl rfl rfl rfl rfl rfl ?_
       intro g7
       refine WpL.nil ⟨rfl, rfl, ?_⟩
       apply Q2 [⟨7, 54, _, [5, 6], false⟩] [0, 1, 5] [5, 7] [56, 57] [56, 57, 47, 48] (.inl ⟨_, by repeat' constructor⟩) rfl rfl rfl (by kernel_rfl) rfl (by kernel_rfl) rfl rfl
       ·refine Qn 7 [5, 6] rfl rfl rfl rfl (by kernel_rfl) rfl ?_ ?_
        ·refine Qg rfl rfl (by repeat' constructor) (GoodPx3_spec [_] _ _ [_, _, 0] C M rds_blk3 (by simp only [List.mem_cons, List.not_mem_nil, or_false]; rintro x (rfl | rfl | rfl) <;> omega) (by simp only [List.length_cons, List.length_nil]; omega) hC hM.1 hM.2) ?_
         rintro _ _ ⟨rfl, rfl⟩
         simp only [Qr]
         exact WpL.nil ⟨rfl, rfl, rfl, by exact Ent.refl _⟩
        exact AllF.nil
       ·refine Y4 rfl rfl rfl rfl ?_
        intro g8
        refine WpL.nil ⟨rfl, rfl, ?_⟩
        apply Q2 [] [0, 1] [0, 1] [57] [57] (.inl ⟨_, by repeat' constructor⟩) rfl rfl rfl (by kernel_rfl) rfl (by kernel_rfl) rfl rfl
        ·exact AllF.nil
        ·(refine X9 rfl rfl rfl (by repeat' constructor) (by rfl) (by rfl) (by rfl) (by rfl) (by omega) (by omega) ?_; intro a56 c56; rw [Zw, show out.length + 1 = (out ++ [(Xy ((([QM 0 3, QM 0 3 / 2, 0] : List Int).take C.toNat).map (fun x => QM x (M + 1)))).1]).length from by simp])
         refine WpL.nil ⟨rfl, rfl, ?_⟩
         apply Q2 [⟨10, 57, _, [0, 1, 2, 3, 4, 5, 6, 7, 8, 9], false⟩] [] [10] [] [] (.inr rfl) rfl rfl rfl (by kernel_rfl) rfl (by kernel_rfl) rfl rfl
         ·refine Qn 10 [0, 1, 2, 3, 4, 5, 6, 7, 8, 9] rfl rfl rfl rfl (by kernel_rfl) rfl ?_ ?_
          ·exact Qj (o2 := 2) rfl rfl rfl (Ql rfl)
          exact AllF.nil
         ·refine Q0 rfl rfl rfl (WpL.nil ⟨rfl, rfl, ?_⟩)
          apply XP [] 12 (by kernel_rfl) (.inr rfl) rfl rfl
          ·exact AllF.nil
          ·refine Qa (Qd rfl rfl (QE rfl rfl rfl (Qt (by omega) (by omega)) ?_))
           refine Qe rfl rfl (WpL.nil (Qy (⟨k + 1, out ++ [(Xy ((([QM 0 3, QM 0 3 / 2, 0] : List Int).take C.toNat).map (fun x => QM x (M + 1)))).1], a56, c56⟩ : GdX) ?_ ?_ (by exact Top.le (by repeat (first | exact FrLe.nil | refine FrLe.cons rfl ?_))) (by repeat (first | exact FrLe.nil | refine FrLe.cons rfl ?_)) ?_))
           ·refine ⟨by simp only; omega, by simp; omega, ?_⟩
            intro p hp
            rcases List.mem_append.1 hp with hp | hp
            ·exact hcan p hp
            ·have := List.mem_singleton.1 hp
             subst this
             exact gx_good hC hM
           ·simp only; omega
           ·exact Take.ent' (by repeat' constructor)
    ·refine QL (Qb (Qa ?_))
     refine Qz (vs := [_, _]) rfl rfl rfl (by rfl) ?_
     refine Qz (vs := [_, _, _]) rfl rfl rfl (by rfl) ?_
     refine XN rfl rfl ?_
     refine QY rfl rfl rfl (by rfl) rfl ?_
     refine WpL.nil (Qh ?_)
     apply RetQ.mk
     ·exact (XF rfl rfl (by rfl))
     ·exact ⟨⟨C, M, (1 + QM w most), (1 + QM h most), out⟩, a, c, ⟨hC, hM, by simp only; omega, by simp only; omega, by simp only; omega, hcan⟩, rfl, rfl⟩
     ·exact Take.ent' (by repeat' constructor)

end Go.Proofs.YtggamdlpiejbiaaGreat
namespace Go.Proofs.YtggamdlpiejbiaaGreat
open Go.RowKit Go.Shelf


/-- What an image is made of, as it lies. -/
structure GS where
  (three : Bool) (mx w h : Int) (a : Option Addr) (c : Nat) (zs : List Int)
def gC (g : GS) : List Value := [.bool g.three, .int .i64 g.mx, .int .i64 g.w, .int .i64 g.h, .slice g.a g.zs.length g.c]
end Go.Proofs.YtggamdlpiejbiaaGreat
