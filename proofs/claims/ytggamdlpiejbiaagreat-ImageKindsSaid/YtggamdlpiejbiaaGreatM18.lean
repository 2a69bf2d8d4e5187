/- Walks and plain laws, a part of the proof of ImageKinds: every input that the law's guards let in, no condition beside. -/
import Derived.Lib.ConvBytes
import Derived.Laws.StructEq
import Derived.ChangeKeysEq
import Derived.Test.YtggamdlpiejbiaaGreatM17
namespace Go.Proofs.YtggamdlpiejbiaaGreat
open Go.RowKit Go.Shelf

def Q6 (l0 l1 l2 : Int) : PS → List Int → PS × List (Evt × Int)
  | s, [] => (s, [])
  | s, c :: bs => ((Q6 l0 l1 l2 (Yc l0 l1 l2 s c).1 bs).1, ((Yc l0 l1 l2 s c).2.map fun x => (x, (Yc l0 l1 l2 s c).1.told)) ++ (Q6 l0 l1 l2 (Yc l0 l1 l2 s c).1 bs).2)
def psFin (fin : Bool) (q : PS × List (Evt × Int)) : PS × List (Evt × Int) := if fin = true then ((psEnd q.1).1, q.2 ++ (psEnd q.1).2.map fun x => (x, q.1.told + 1)) else q
def Y5 (a : List (Evt × Int)) (q : PS × List (Evt × Int)) : PS × List (Evt × Int) := (q.1, a ++ q.2)
theorem papp_papp (a b : List (Evt × Int)) (q : PS × List (Evt × Int)) : Y5 a (Y5 b q) = Y5 (a ++ b) q := by simp [Y5]
theorem papp_nil (q : PS × List (Evt × Int)) : Y5 [] q = q := rfl
theorem YL (l0 l1 l2 : Int) (s : PS) (c : Int) (bs : List Int) : Q6 l0 l1 l2 s (c :: bs) = Y5 ((Yc l0 l1 l2 s c).2.map fun x => (x, (Yc l0 l1 l2 s c).1.told)) (Q6 l0 l1 l2 (Yc l0 l1 l2 s c).1 bs) := rfl
theorem psPut_ok (l0 l1 l2 : Int) {s : PS} {c : Int} (h : s.over = false) (he : s.e = 0) : Yc l0 l1 l2 s c = psStep l0 l1 l2 { s with told := s.told + 1 } c := if_neg (by rw [h, he]; simp)
theorem psPut_dead (l0 l1 l2 : Int) {s : PS} {c : Int} (h : s.over = true ∨ s.e ≠ 0) : Yc l0 l1 l2 s c = (s, []) := if_pos h
theorem psRun_dead (l0 l1 l2 : Int) : ∀ (bs : List Int) {s : PS}, (s.over = true ∨ s.e ≠ 0) → Q6 l0 l1 l2 s bs = (s, [])
  | [], _, _ => rfl
  | c :: bs, s, h => by rw [YL, psPut_dead _ _ _ h, psRun_dead l0 l1 l2 bs h]; rfl
theorem psFin_dead {fin : Bool} {s : PS} {a : List (Evt × Int)} (h : s.over = true ∨ s.e ≠ 0) : psFin fin (s, a) = (s, a) := by
  unfold psFin
  split
  · have : psEnd s = (s, []) := if_pos h
    simp [this]
  · rfl
/-- What a raster's reading tells: its events, how many bytes of all were told behind it, the error (9: it goes on). -/
def BodyOut (l0 l1 l2 : Int) (fin : Bool) (h : HS) (bd : Bd) (bs : List Int) (at0 imgs : Int) (out : List (Evt × Int)) (to f : Int) : Prop :=
  (f = 0 → psFin fin (Q6 l0 l1 l2 ⟨some h, 2, bd, at0, imgs, false, 0⟩ (bs.drop at0.toNat)) = Y5 out (psFin fin (Q6 l0 l1 l2 ⟨some h, 0, .no, to, imgs + 1, false, 0⟩ (bs.drop to.toNat)))) ∧
  (f ≠ 0 → ∃ s', psFin fin (Q6 l0 l1 l2 ⟨some h, 2, bd, at0, imgs, false, 0⟩ (bs.drop at0.toNat)) = (s', out) ∧ s'.e = (if f = 9 then 0 else f) ∧ s'.told = to ∧ s'.imgs = imgs)

end Go.Proofs.YtggamdlpiejbiaaGreat
namespace Go.Proofs.YtggamdlpiejbiaaGreat
open Go.RowKit Go.Shelf

def atE (es : List Evt) (n : Int) : List (Evt × Int) := es.map fun x => (x, n)
def dnE (n : Int) : Evt × Int := (⟨3, 0, 0, 0, 0, []⟩, n)
theorem run_evts (l0 l1 l2 : Int) {h : HS} {bd bd' : Bd} {told imgs c st e : Int} {row bs : List Int} (hp : Yc l0 l1 l2 ⟨some h, 2, bd, told, imgs, false, 0⟩ c = Yb ⟨some h, 2, bd, told + 1, imgs, false, 0⟩ bd' st e row) :
    (st = 0 → Q6 l0 l1 l2 ⟨some h, 2, bd, told, imgs, false, 0⟩ (c :: bs) = Y5 (atE (rowE row) (told + 1)) (Q6 l0 l1 l2 ⟨some h, 2, bd', told + 1, imgs, false, 0⟩ bs)) ∧
    (st = 1 → Q6 l0 l1 l2 ⟨some h, 2, bd, told, imgs, false, 0⟩ (c :: bs) = Y5 (atE (rowE row) (told + 1) ++ [dnE (told + 1)]) (Q6 l0 l1 l2 ⟨some h, 0, .no, told + 1, imgs + 1, false, 0⟩ bs)) ∧
    (st = 2 → e ≠ 0 → Q6 l0 l1 l2 ⟨some h, 2, bd, told, imgs, false, 0⟩ (c :: bs) = (⟨some h, 2, bd', told + 1, imgs, false, e⟩, atE (rowE row) (told + 1))) := by
  refine ⟨fun hs => ?_, fun hs => ?_, fun hs he => ?_⟩
  · subst hs
    rw [YL, hp]
    simp [Yb, doneE, atE]
  · subst hs
    rw [YL, hp]
    simp [Yb, doneE, atE, dnE]
  · subst hs
    rw [YL, hp]
    simp only [Yb, if_true, doneE, show ¬ (2 : Int) = 1 from by decide, if_false, List.append_nil]
    rw [psRun_dead _ _ _ _ (.inr he)]
    simp [Y5, atE]
theorem put_rw (l0 l1 l2 : Int) {h : HS} {r : RW} {told imgs c : Int} : Yc l0 l1 l2 ⟨some h, 2, .rw r, told, imgs, false, 0⟩ c = Yb ⟨some h, 2, .rw r, told + 1, imgs, false, 0⟩ (.rw (Q9 h.K h.W.toNat h.H h.M r c).1) (Q9 h.K h.W.toNat h.H h.M r c).1.last (Q9 h.K h.W.toNat h.H h.M r c).1.e (Q9 h.K h.W.toNat h.H h.M r c).2 := by
  rw [psPut_ok _ _ _ rfl rfl]
  exact (if_neg (show ¬ (2 : Int) = 0 by decide)).trans (if_neg (show ¬ (2 : Int) = 1 by decide))
end Go.Proofs.YtggamdlpiejbiaaGreat
namespace Go.Proofs.YtggamdlpiejbiaaGreat
open Go.RowKit Go.Shelf

def okUpto (K M : Int) (w : Nat) (r : List Int) (n : Nat) : Prop := K ≠ 4 → ∀ i, (i + 1) * w ≤ n → (i + 1) * w ≤ r.length → Xu w r i ≤ M
theorem set_take {b r : List Int} {k : Nat} (hk : k < r.length) (hb : k < b.length) (ht : b.take k = r.take k) : (b.set k r[k]).take (k + 1) = r.take (k + 1) := by
  rw [List.take_set, List.take_succ_eq_append_getElem hb, List.take_succ_eq_append_getElem hk, ht]
  rw [List.set_append_right _ _ (by rw [List.length_take]; omega)]
  simp [List.length_take, Nat.min_eq_left (Nat.le_of_lt hk)]
theorem smp_take {w : Nat} (hw : w = 1 ∨ w = 2) {b r : List Int} {k i : Nat} (ht : b.take k = r.take k) (hi : (i + 1) * w ≤ k) : Xu w b i = Xu w r i := by
  have hq : ∀ j, j < k → b[j]? = r[j]? := fun j hj => by
    have := congrArg (fun l => l[j]?) ht
    simpa [List.getElem?_take, hj] using this
  unfold Xu
  rcases hw with rfl | rfl
  · rw [if_pos rfl, if_pos rfl, hq _ (by omega)]
  · rw [if_neg (by decide), if_neg (by decide), hq _ (by omega), hq _ (by omega)]
section
variable {l0 l1 l2 : Int} {h : HS} {imgs : Int}
/-- One byte within a row, not its last, and not a bad one's last. -/
theorem rw_mid {b : List Int} {k : Nat} {y e c : Int} (hn : k + 1 < b.length) (hg : ¬ (h.K ≠ 4 ∧ (k + 1) % Qg h.M = 0 ∧ Xu (Qg h.M) (b.set k c) ((k + 1) / Qg h.M - 1) > h.M)) : Q9 h.K h.W.toNat h.H h.M ⟨b, k, y, 0, e⟩ c = (⟨b.set k c, k + 1, y, 0, e⟩, []) := by
  unfold Q9
  rw [if_neg (by simp), if_neg hg, if_pos (by simpa using hn)]
theorem rw_last {b : List Int} {k : Nat} {y e c : Int} (hn : ¬ k + 1 < b.length) (hg : ¬ (h.K ≠ 4 ∧ (k + 1) % Qg h.M = 0 ∧ Xu (Qg h.M) (b.set k c) ((k + 1) / Qg h.M - 1) > h.M)) : Q9 h.K h.W.toNat h.H h.M ⟨b, k, y, 0, e⟩ c = (⟨b.set k c, 0, y + 1, if y + 1 = h.H then 1 else 0, e⟩, Yk h.K h.W.toNat (Qg h.M) (b.set k c)) := by
  unfold Q9
  rw [if_neg (by simp), if_neg hg, if_neg (by simpa using hn)]
theorem rw_bad {b : List Int} {k : Nat} {y e c : Int} (hg : h.K ≠ 4 ∧ (k + 1) % Qg h.M = 0 ∧ Xu (Qg h.M) (b.set k c) ((k + 1) / Qg h.M - 1) > h.M) : Q9 h.K h.W.toNat h.H h.M ⟨b, k, y, 0, e⟩ c = (⟨b.set k c, k + 1, y, 2, 5⟩, []) := by
  unfold Q9
  rw [if_neg (by simp), if_pos hg]
/-- A row's bytes that are good: whole, or cut off. -/
theorem row_run {n : Nat} {r : List Int} {y t0 : Int} (hok : okUpto h.K h.M (Qg h.M) r n) (hW : 1 ≤ h.W.toNat) (hn : n = QA h.K h.W.toNat (Qg h.M)) : ∀ (m k : Nat), m = n - k → k < n → ∀ (b : List Int), b.length = n → k ≤ r.length → b.take k = r.take k →
    (n ≤ r.length → y + 1 ≠ h.H → ∃ e', e' = (0 : Int) ∧ Q6 l0 l1 l2 ⟨some h, 2, .rw ⟨b, k, y, 0, 0⟩, t0 + k, imgs, false, 0⟩ (r.drop k) = Y5 [(⟨2, 0, 0, 0, 0, Yk h.K h.W.toNat (Qg h.M) (r.take n)⟩, t0 + n)] (Q6 l0 l1 l2 ⟨some h, 2, .rw ⟨r.take n, 0, y + 1, 0, e'⟩, t0 + n, imgs, false, 0⟩ (r.drop n))) ∧
    (n ≤ r.length → y + 1 = h.H → Q6 l0 l1 l2 ⟨some h, 2, .rw ⟨b, k, y, 0, 0⟩, t0 + k, imgs, false, 0⟩ (r.drop k) = Y5 [(⟨2, 0, 0, 0, 0, Yk h.K h.W.toNat (Qg h.M) (r.take n)⟩, t0 + n), dnE (t0 + n)] (Q6 l0 l1 l2 ⟨some h, 0, .no, t0 + n, imgs + 1, false, 0⟩ (r.drop n))) ∧
    (r.length < n → ∃ s, Q6 l0 l1 l2 ⟨some h, 2, .rw ⟨b, k, y, 0, 0⟩, t0 + k, imgs, false, 0⟩ (r.drop k) = (⟨some h, 2, .rw s, t0 + r.length, imgs, false, 0⟩, [])) := by
  have hw := QX h.M
  intro m
  induction m with
  | zero => intro k hm hk; omega
  | succ m ih =>
    intro k hm hk b hb hkr ht
    by_cases hke : k = r.length
    · refine ⟨fun q => by omega, fun q => by omega, fun _ => ⟨⟨b, k, y, 0, 0⟩, ?_⟩⟩
      rw [List.drop_of_length_le (by omega), hke]; rfl
    have hkl : k < r.length := by omega
    have hdr := List.drop_eq_getElem_cons hkl
    have hst := set_take hkl (by omega) ht
    have hg : ¬ (h.K ≠ 4 ∧ (k + 1) % Qg h.M = 0 ∧ Xu (Qg h.M) (b.set k r[k]) ((k + 1) / Qg h.M - 1) > h.M) := by
      rintro ⟨h1, h2, h3⟩
      have hx : ((k + 1) / Qg h.M - 1 + 1) * Qg h.M = k + 1 := by
        rcases hw with e | e <;> rw [e] at h2 ⊢ <;> omega
      rw [smp_take hw hst (by omega)] at h3
      have := hok h1 _ (by rw [hx]; omega) (by rw [hx]; omega)
      omega
    have hsl : (b.set k r[k]).length = n := by rw [List.length_set, hb]
    have hcast : t0 + ((k + 1 : Nat) : Int) = t0 + k + 1 := by push_cast; omega
    have hq := put_rw l0 l1 l2 (h := h) (r := ⟨b, k, y, 0, 0⟩) (told := t0 + k) (imgs := imgs) (c := r[k])
    by_cases hl : k + 1 < n
    · rw [rw_mid (by omega) hg] at hq
      have hr := (run_evts l0 l1 l2 (bs := r.drop (k + 1)) hq).1 rfl
      have hi := ih (k + 1) (by omega) hl (b.set k r[k]) hsl (by omega) hst
      rw [hcast] at hi
      rw [hdr, hr]
      have hre : atE (rowE []) (t0 + k + 1) = [] := rfl
      rw [hre, papp_nil]
      exact hi
    · have hke2 : k + 1 = n := by omega
      rw [rw_last (by omega) hg] at hq
      have hall : b.set k r[k] = r.take n := by
        have h1 : (b.set k r[k]).take (k + 1) = b.set k r[k] := List.take_of_length_le (by omega)
        rw [← h1, hst, hke2]
      rw [hall] at hq
      have hrl : (Yk h.K h.W.toNat (Qg h.M) (r.take n)).length = h.W.toNat := Yq hw (by rw [List.length_take]; omega)
      have hre : rowE (Yk h.K h.W.toNat (Qg h.M) (r.take n)) = [⟨2, 0, 0, 0, 0, Yk h.K h.W.toNat (Qg h.M) (r.take n)⟩] := if_neg (fun q => by rw [q] at hrl; simp at hrl; omega)
      have hr := run_evts l0 l1 l2 (bs := r.drop (k + 1)) hq
      have hcast2 : t0 + (n : Int) = t0 + k + 1 := by rw [← hke2]; exact hcast
      refine ⟨fun _ hy => ⟨0, rfl, ?_⟩, fun _ hy => ?_, fun q => by omega⟩
      · have hr1 := hr.1 (if_neg hy)
        rw [hdr, hr1, hre, hcast2, ← hke2, if_neg hy]; rfl
      · have hr1 := hr.2.1 (if_pos hy)
        rw [hdr, hr1, hre, hcast2, ← hke2]; rfl
/-- A row's bytes of which a sample is bad. -/
theorem row_bad {n i0 : Nat} {r : List Int} {y t0 : Int} (hK : h.K ≠ 4) (hbad : Xu (Qg h.M) r i0 > h.M) (hok : ∀ i, i < i0 → Xu (Qg h.M) r i ≤ h.M) (h1 : (i0 + 1) * Qg h.M ≤ n) (h2 : (i0 + 1) * Qg h.M ≤ r.length) : ∀ (m k : Nat), m = (i0 + 1) * Qg h.M - k → k < (i0 + 1) * Qg h.M → ∀ (b : List Int), b.length = n → b.take k = r.take k →
    ∃ s, Q6 l0 l1 l2 ⟨some h, 2, .rw ⟨b, k, y, 0, 0⟩, t0 + k, imgs, false, 0⟩ (r.drop k) = (⟨some h, 2, .rw s, t0 + ((i0 + 1) * Qg h.M : Nat), imgs, false, 5⟩, []) := by
  have hw := QX h.M
  intro m
  induction m with
  | zero => intro k hm hk; omega
  | succ m ih =>
    intro k hm hk b hb ht
    have hkl : k < r.length := by omega
    have hdr := List.drop_eq_getElem_cons hkl
    have hst := set_take hkl (by omega) ht
    have hcast : t0 + ((k + 1 : Nat) : Int) = t0 + k + 1 := by push_cast; omega
    have hq := put_rw l0 l1 l2 (h := h) (r := ⟨b, k, y, 0, 0⟩) (told := t0 + k) (imgs := imgs) (c := r[k])
    by_cases hl : k + 1 < (i0 + 1) * Qg h.M
    · have hg : ¬ (h.K ≠ 4 ∧ (k + 1) % Qg h.M = 0 ∧ Xu (Qg h.M) (b.set k r[k]) ((k + 1) / Qg h.M - 1) > h.M) := by
        rintro ⟨_, h4, h3⟩
        have hx : ((k + 1) / Qg h.M - 1 + 1) * Qg h.M = k + 1 ∧ (k + 1) / Qg h.M - 1 < i0 := by
          rcases hw with e | e <;> rw [e] at h4 hl ⊢ <;> omega
        rw [smp_take hw hst (by omega)] at h3
        have := hok _ hx.2
        omega
      rw [rw_mid (by omega) hg] at hq
      have hr := (run_evts l0 l1 l2 (bs := r.drop (k + 1)) hq).1 rfl
      have hi := ih (k + 1) (by omega) hl (b.set k r[k]) (by rw [List.length_set, hb]) hst
      rw [hcast] at hi
      rw [hdr, hr]
      exact hi
    · have hke2 : k + 1 = (i0 + 1) * Qg h.M := by omega
      have hg : h.K ≠ 4 ∧ (k + 1) % Qg h.M = 0 ∧ Xu (Qg h.M) (b.set k r[k]) ((k + 1) / Qg h.M - 1) > h.M := by
        have hx : (k + 1) % Qg h.M = 0 ∧ (k + 1) / Qg h.M - 1 = i0 := by
          rw [hke2]
          rcases hw with e | e <;> rw [e] <;> omega
        refine ⟨hK, hx.1, ?_⟩
        rw [hx.2, smp_take hw hst (by omega)]
        exact hbad
      rw [rw_bad hg] at hq
      have hr := (run_evts l0 l1 l2 (bs := r.drop (k + 1)) hq).2.2 rfl (by simp)
      refine ⟨⟨b.set k r[k], k + 1, y, 2, 5⟩, ?_⟩
      rw [hdr, hr, ← hke2, hcast]; rfl
end
theorem badI_spec (w M : Int) : ∀ (S : List Int) (i : Int), (badI w M S i = 0 ∧ ∀ x ∈ S, x ≤ M) ∨ ∃ j, ∃ hj : j < S.length, S[j] > M ∧ (∀ j' (h : j' < j), S[j']'(by omega) ≤ M) ∧ badI w M S i = w * (i + j + 1)
  | [], i => .inl ⟨rfl, fun x hx => by simp at hx⟩
  | x :: S, i => by
    by_cases hx : x > M
    · exact .inr ⟨0, by simp, hx, fun j' h => by omega, by rw [badI, if_pos hx]; simp⟩
    · rcases badI_spec w M S (i + 1) with ⟨h1, h2⟩ | ⟨j, hj, h1, h2, h3⟩
      · refine .inl ⟨by rw [badI, if_neg hx, h1], fun z hz => ?_⟩
        rcases List.mem_cons.1 hz with rfl | hz
        · omega
        · exact h2 z hz
      · refine .inr ⟨j + 1, by simpa using hj, by simpa using h1, fun j' h => ?_, by rw [badI, if_neg hx, h3]; congr 1; push_cast; omega⟩
        cases j' with
        | zero => simp only [List.getElem_cons_zero]; omega
        | succ j' => simpa using h2 j' (by omega)

theorem smpAt_drop {w : Nat} (hw : w = 1 ∨ w = 2) (R : List Int) (P i : Nat) : Xu w (R.drop (P * w)) i = Xu w R (P + i) := by
  unfold Xu
  rcases hw with rfl | rfl
  · rw [if_pos rfl, if_pos rfl, List.getElem?_drop, show P * 1 + i = P + i by omega]
  · rw [if_neg (by decide), if_neg (by decide), List.getElem?_drop, List.getElem?_drop, show P * 2 + 2 * i = 2 * (P + i) by omega, show P * 2 + (2 * i + 1) = 2 * (P + i) + 1 by omega]
theorem smps_at {w : Nat} (hw : w = 1 ∨ w = 2) (R : List Int) {j N : Nat} (h1 : (j + 1) * w ≤ N) (h2 : (j + 1) * w ≤ R.length) : ∃ hj : j < (Y0 w (R.take N)).length, (Y0 w (R.take N))[j] = Xu w R j := by
  have hl : (R.take N).length = min N R.length := List.length_take
  refine ⟨by rw [Y6, hl]; rcases hw with rfl | rfl <;> omega, ?_⟩
  simp only [Y0, List.getElem_map, List.getElem_range]
  exact smp_take hw (k := N) (by rw [List.take_take, Nat.min_self]) h1
section
variable {K M : Int} {W H : Nat}
theorem strd_q (hK : K ≠ 4) : QA K W (Qg M) = (W * (QT K).toNat) * Qg M := if_neg hK
/-- Where a row's samples are among all of a raster. -/
theorem row_pos {R : List Int} {y i : Nat} (hy : y < H) (hK : K ≠ 4) (h1 : (i + 1) * Qg M ≤ QA K W (Qg M)) (h2 : y * QA K W (Qg M) + (i + 1) * Qg M ≤ R.length) :
    ∃ P, y * QA K W (Qg M) = P * Qg M ∧ ∃ hj : P + i < (Y0 (Qg M) (R.take (QA K W (Qg M) * H))).length, (Y0 (Qg M) (R.take (QA K W (Qg M) * H)))[P + i] = Xu (Qg M) (R.drop (y * QA K W (Qg M))) i := by
  have hw := QX M
  have hn := strd_q (M := M) (W := W) hK
  have hP : y * QA K W (Qg M) = (y * (W * (QT K).toNat)) * Qg M := by rw [hn]; exact (Nat.mul_assoc _ _ _).symm
  have hH : (y + 1) * QA K W (Qg M) ≤ QA K W (Qg M) * H := by rw [Nat.mul_comm]; exact Nat.mul_le_mul_left _ hy
  have hy1 : (y + 1) * QA K W (Qg M) = y * QA K W (Qg M) + QA K W (Qg M) := by rw [Nat.add_mul, Nat.one_mul]
  refine ⟨_, hP, ?_⟩
  rw [hP, smpAt_drop hw]
  have hj : ((y * (W * (QT K).toNat)) + i + 1) * Qg M = (y * (W * (QT K).toNat)) * Qg M + (i + 1) * Qg M := by rw [← Nat.add_mul]; congr 1
  exact smps_at hw R (by rw [hj, ← hP]; omega) (by rw [hj, ← hP]; exact h2)
theorem badR_n4 {R : List Int} (hK : K ≠ 4) : Yy K W H M R = badI ((Qg M : Nat) : Int) M (Y0 (Qg M) (R.take (QA K W (Qg M) * H))) 0 := if_neg hK
theorem row_ok {R : List Int} {y : Nat} (hy : y < H) (hb : ¬ (Yy K W H M R > 0 ∧ Yy K W H M R ≤ (((y + 1) * QA K W (Qg M) : Nat) : Int))) : okUpto K M (Qg M) (R.drop (y * QA K W (Qg M))) (QA K W (Qg M)) := by
  intro hK i h1 h2
  have hw := QX M
  rw [List.length_drop] at h2
  have h2' : y * QA K W (Qg M) + (i + 1) * Qg M ≤ R.length := by
    have : 1 ≤ (i + 1) * Qg M := Nat.mul_pos (by omega) (by omega)
    omega
  obtain ⟨P, hP, hj, he⟩ := row_pos (H := H) hy hK h1 h2'
  have hy1 : (y + 1) * QA K W (Qg M) = y * QA K W (Qg M) + QA K W (Qg M) := by rw [Nat.add_mul, Nat.one_mul]
  rw [hy1, hP] at hb
  rw [← he]
  rw [badR_n4 hK] at hb
  rcases badI_spec ((Qg M : Nat) : Int) M (Y0 (Qg M) (R.take (QA K W (Qg M) * H))) 0 with ⟨_, hall⟩ | ⟨j, hjl, hjb, hjo, hje⟩
  · exact hall _ (List.getElem_mem hj)
  · by_cases hlt : P + i < j
    · exact hjo _ hlt
    · exfalso
      apply hb
      rw [hje]
      rcases hw with e | e <;> rw [e] at h1 ⊢ <;> push_cast <;> omega
theorem row_isbad {R : List Int} {y : Nat} (_hy : y < H) (h0 : Yy K W H M R > 0) (h1 : Yy K W H M R ≤ (((y + 1) * QA K W (Qg M) : Nat) : Int)) (h2 : ¬ Yy K W H M R ≤ ((y * QA K W (Qg M) : Nat) : Int)) :
    K ≠ 4 ∧ ∃ i0, Xu (Qg M) (R.drop (y * QA K W (Qg M))) i0 > M ∧ (∀ i, i < i0 → Xu (Qg M) (R.drop (y * QA K W (Qg M))) i ≤ M) ∧ (i0 + 1) * Qg M ≤ QA K W (Qg M) ∧ (i0 + 1) * Qg M ≤ (R.drop (y * QA K W (Qg M))).length ∧ Yy K W H M R = ((y * QA K W (Qg M) + (i0 + 1) * Qg M : Nat) : Int) := by
  have hK : K ≠ 4 := fun h => by unfold Yy at h0; rw [if_pos h] at h0; omega
  refine ⟨hK, ?_⟩
  have hw := QX M
  have hn := strd_q (M := M) (W := W) hK
  have hP : y * QA K W (Qg M) = (y * (W * (QT K).toNat)) * Qg M := by rw [hn]; exact (Nat.mul_assoc _ _ _).symm
  have hy1 : (y + 1) * QA K W (Qg M) = y * QA K W (Qg M) + QA K W (Qg M) := by rw [Nat.add_mul, Nat.one_mul]
  rw [badR_n4 hK] at h0 h1 h2 ⊢
  rcases badI_spec ((Qg M : Nat) : Int) M (Y0 (Qg M) (R.take (QA K W (Qg M) * H))) 0 with ⟨hz, _⟩ | ⟨j, hjl, hjb, hjo, hje⟩
  · omega
  rw [hje] at h0 h1 h2 ⊢
  have hjl2 := hjl
  rw [Y6, List.length_take] at hjl2
  rw [hy1] at h1
  obtain ⟨P, hPd⟩ : ∃ P, P = y * (W * (QT K).toNat) := ⟨_, rfl⟩
  obtain ⟨q, hqd⟩ : ∃ q, q = W * (QT K).toNat := ⟨_, rfl⟩
  rw [← hPd] at hP
  rw [← hqd] at hn
  rw [hP] at h1 h2 ⊢
  have hPj : P ≤ j := by rcases hw with e | e <;> rw [e] at h2 <;> push_cast at h2 <;> omega
  have hi1 : (j - P + 1) * Qg M ≤ QA K W (Qg M) := by
    rw [hn] at h1 ⊢
    have : j + 1 ≤ P + q := by
      rcases hw with e | e <;> rw [e] at h1 <;> push_cast at h1 <;> omega
    exact Nat.mul_le_mul_right _ (by omega)
  have hlen : P * Qg M + (j - P + 1) * Qg M ≤ R.length := by
    rw [← Nat.add_mul]
    have hx : P + (j - P + 1) = j + 1 := by omega
    rw [hx]
    rcases hw with e | e <;> rw [e] at hjl2 ⊢ <;> omega
  refine ⟨j - P, ?_, ?_, hi1, by rw [List.length_drop]; omega, ?_⟩
  · rw [smpAt_drop hw, show P + (j - P) = j by omega]
    have hN : (j + 1) * Qg M ≤ QA K W (Qg M) * H := by rcases hw with e | e <;> rw [e] at hjl2 ⊢ <;> omega
    have hR : (j + 1) * Qg M ≤ R.length := by rcases hw with e | e <;> rw [e] at hjl2 ⊢ <;> omega
    obtain ⟨_, he⟩ := smps_at hw R hN hR
    rw [← he]; exact hjb
  · intro i hi
    rw [smpAt_drop hw]
    have hN : (P + i + 1) * Qg M ≤ QA K W (Qg M) * H := by rcases hw with e | e <;> rw [e] at hjl2 ⊢ <;> omega
    have hR : (P + i + 1) * Qg M ≤ R.length := by rcases hw with e | e <;> rw [e] at hjl2 ⊢ <;> omega
    obtain ⟨_, he⟩ := smps_at hw R hN hR
    rw [← he]; exact hjo _ (by omega)
  · rw [← Nat.add_mul, show P + (j - P + 1) = j + 1 by omega]; push_cast; rw [Int.zero_add, Int.mul_comm]
end
/-- How a raw raster stands in the reference: so many rows, the events. -/
def rwI (l0 l1 l2 : Int) (h : HS) (bs : List Int) (at0 : Nat) (imgs : Int) (y : Nat) (out : List (Evt × Int)) : Prop :=
  ((y : Int) < h.H → ∃ b, b.length = QA h.K h.W.toNat (Qg h.M) ∧ Q6 l0 l1 l2 ⟨some h, 2, .rw (rw0 h), at0, imgs, false, 0⟩ (bs.drop at0) = Y5 out (Q6 l0 l1 l2 ⟨some h, 2, .rw ⟨b, 0, y, 0, 0⟩, ((at0 + y * QA h.K h.W.toNat (Qg h.M) : Nat) : Int), imgs, false, 0⟩ (bs.drop (at0 + y * QA h.K h.W.toNat (Qg h.M))))) ∧
  ((y : Int) = h.H → Q6 l0 l1 l2 ⟨some h, 2, .rw (rw0 h), at0, imgs, false, 0⟩ (bs.drop at0) = Y5 (out ++ [dnE ((at0 + y * QA h.K h.W.toNat (Qg h.M) : Nat) : Int)]) (Q6 l0 l1 l2 ⟨some h, 0, .no, ((at0 + y * QA h.K h.W.toNat (Qg h.M) : Nat) : Int), imgs + 1, false, 0⟩ (bs.drop (at0 + y * QA h.K h.W.toNat (Qg h.M)))))
section
variable {l0 l1 l2 : Int} {h : HS} {bs : List Int} {at0 : Nat} {imgs : Int} {y : Nat} {out : List (Evt × Int)} {fin : Bool}
theorem rwI0 (hH : 1 ≤ h.H) : rwI l0 l1 l2 h bs at0 imgs 0 [] := by
  refine ⟨fun _ => ⟨List.replicate (QA h.K h.W.toNat (Qg h.M)) 0, by simp, ?_⟩, fun q => by omega⟩
  rw [papp_nil, Nat.zero_mul, Nat.add_zero]; rfl
theorem rw_bad' (_hf : Y8 h) (hI : rwI l0 l1 l2 h bs at0 imgs y out) (hy : (y : Int) < h.H) (h0 : Yy h.K h.W.toNat h.H.toNat h.M (bs.drop at0) > 0) (h1 : Yy h.K h.W.toNat h.H.toNat h.M (bs.drop at0) ≤ (((y + 1) * QA h.K h.W.toNat (Qg h.M) : Nat) : Int)) (h2 : ¬ Yy h.K h.W.toNat h.H.toNat h.M (bs.drop at0) ≤ ((y * QA h.K h.W.toNat (Qg h.M) : Nat) : Int)) :
    BodyOut l0 l1 l2 fin h (.rw (rw0 h)) bs at0 imgs out (at0 + Yy h.K h.W.toNat h.H.toNat h.M (bs.drop at0)) 5 := by
  obtain ⟨b, hb, hr⟩ := hI.1 hy
  obtain ⟨hK, i0, g1, g2, g3, g4, g5⟩ := row_isbad (H := h.H.toNat) (y := y) (by omega) h0 h1 h2
  rw [List.drop_drop] at g1 g2 g4
  have hpos : 0 < (i0 + 1) * Qg h.M := Nat.mul_pos (by omega) (by have := QX h.M; omega)
  obtain ⟨s, hs⟩ := row_bad (l0 := l0) (l1 := l1) (l2 := l2) (imgs := imgs) (y := y) (t0 := ((at0 + y * QA h.K h.W.toNat (Qg h.M) : Nat) : Int)) hK g1 g2 g3 g4 _ 0 rfl hpos b hb (by simp)
  rw [List.drop_zero, Int.natCast_zero, Int.add_zero] at hs
  refine ⟨fun q => absurd q (by decide), fun _ => ⟨⟨some h, 2, .rw s, ((at0 + y * QA h.K h.W.toNat (Qg h.M) : Nat) : Int) + (((i0 + 1) * Qg h.M : Nat) : Int), imgs, false, 5⟩, ?_, rfl, ?_, rfl⟩⟩
  · rw [Int.toNat_natCast, hr, hs]
    simp only [Y5, List.append_nil]
    exact psFin_dead (.inr (by simp))
  · simp only; rw [g5]; push_cast; omega
theorem rw_row (hf : Y8 h) (hI : rwI l0 l1 l2 h bs at0 imgs y out) (hy : (y : Int) < h.H) (hb0 : ¬ (Yy h.K h.W.toNat h.H.toNat h.M (bs.drop at0) > 0 ∧ Yy h.K h.W.toNat h.H.toNat h.M (bs.drop at0) ≤ (((y + 1) * QA h.K h.W.toNat (Qg h.M) : Nat) : Int))) (hl : at0 + (y + 1) * QA h.K h.W.toNat (Qg h.M) ≤ bs.length) :
    rwI l0 l1 l2 h bs at0 imgs (y + 1) (out ++ [(⟨2, 0, 0, 0, 0, Yk h.K h.W.toNat (Qg h.M) ((bs.drop (at0 + y * QA h.K h.W.toNat (Qg h.M))).take (QA h.K h.W.toNat (Qg h.M)))⟩, ((at0 + (y + 1) * QA h.K h.W.toNat (Qg h.M) : Nat) : Int))]) := by
  obtain ⟨b, hb, hr⟩ := hI.1 hy
  have hM := hf.2.2
  unfold XP at hM
  have hsb := XE (K := h.K) (W := h.W.toNat) (QX h.M) (by omega) (by omega)
  have hok := row_ok (H := h.H.toNat) (y := y) (by omega) hb0
  rw [List.drop_drop] at hok
  have hy1 : (y + 1) * QA h.K h.W.toNat (Qg h.M) = y * QA h.K h.W.toNat (Qg h.M) + QA h.K h.W.toNat (Qg h.M) := by rw [Nat.add_mul, Nat.one_mul]
  have hrun := row_run (l0 := l0) (l1 := l1) (l2 := l2) (imgs := imgs) (y := y) (t0 := ((at0 + y * QA h.K h.W.toNat (Qg h.M) : Nat) : Int)) hok (by omega) rfl _ 0 rfl (by omega) b hb (Nat.zero_le _) (by simp)
  rw [List.drop_zero, Int.natCast_zero, Int.add_zero, List.drop_drop] at hrun
  have hcast : ((at0 + y * QA h.K h.W.toNat (Qg h.M) : Nat) : Int) + ((QA h.K h.W.toNat (Qg h.M) : Nat) : Int) = ((at0 + (y + 1) * QA h.K h.W.toNat (Qg h.M) : Nat) : Int) := by rw [hy1]; push_cast; omega
  have hdr : at0 + y * QA h.K h.W.toNat (Qg h.M) + QA h.K h.W.toNat (Qg h.M) = at0 + (y + 1) * QA h.K h.W.toNat (Qg h.M) := by rw [hy1]; omega
  rw [hcast, hdr] at hrun
  have hlen : QA h.K h.W.toNat (Qg h.M) ≤ (bs.drop (at0 + y * QA h.K h.W.toNat (Qg h.M))).length := by rw [List.length_drop]; omega
  refine ⟨fun q => ?_, fun q => ?_⟩
  · obtain ⟨e', he', hx⟩ := hrun.1 hlen (by push_cast at q; omega)
    subst he'
    refine ⟨_, ?_, by rw [hr, hx, papp_papp]; rfl⟩
    rw [List.length_take]; omega
  · have hx := hrun.2.1 hlen (by push_cast at q; omega)
    rw [hr, hx, papp_papp, List.append_assoc]; rfl
theorem rw_short (hf : Y8 h) (hI : rwI l0 l1 l2 h bs at0 imgs y out) (hy : (y : Int) < h.H) (hat : at0 + y * QA h.K h.W.toNat (Qg h.M) ≤ bs.length) (hb0 : ¬ (Yy h.K h.W.toNat h.H.toNat h.M (bs.drop at0) > 0 ∧ Yy h.K h.W.toNat h.H.toNat h.M (bs.drop at0) ≤ (((y + 1) * QA h.K h.W.toNat (Qg h.M) : Nat) : Int))) (hl : ¬ at0 + (y + 1) * QA h.K h.W.toNat (Qg h.M) ≤ bs.length) :
    BodyOut l0 l1 l2 fin h (.rw (rw0 h)) bs at0 imgs out bs.length (if fin = true then 6 else 9) := by
  obtain ⟨b, hb, hr⟩ := hI.1 hy
  have hM := hf.2.2
  unfold XP at hM
  have hsb := XE (K := h.K) (W := h.W.toNat) (QX h.M) (by omega) (by omega)
  have hok := row_ok (H := h.H.toNat) (y := y) (by omega) hb0
  rw [List.drop_drop] at hok
  have hy1 : (y + 1) * QA h.K h.W.toNat (Qg h.M) = y * QA h.K h.W.toNat (Qg h.M) + QA h.K h.W.toNat (Qg h.M) := by rw [Nat.add_mul, Nat.one_mul]
  have hrun := row_run (l0 := l0) (l1 := l1) (l2 := l2) (imgs := imgs) (y := y) (t0 := ((at0 + y * QA h.K h.W.toNat (Qg h.M) : Nat) : Int)) hok (by omega) rfl _ 0 rfl (by omega) b hb (Nat.zero_le _) (by simp)
  rw [List.drop_zero, Int.natCast_zero, Int.add_zero] at hrun
  obtain ⟨s, hx⟩ := hrun.2.2 (by rw [List.length_drop]; omega)
  have hcast : ((at0 + y * QA h.K h.W.toNat (Qg h.M) : Nat) : Int) + (((bs.drop (at0 + y * QA h.K h.W.toNat (Qg h.M))).length : Nat) : Int) = ((bs.length : Nat) : Int) := by rw [List.length_drop]; omega
  rw [hcast] at hx
  refine ⟨fun q => by cases fin <;> simp at q, fun _ => ?_⟩
  rw [Int.toNat_natCast, hr, hx]
  cases fin with
  | false => exact ⟨⟨some h, 2, .rw s, bs.length, imgs, false, 0⟩, by simp [psFin, Y5], by simp, rfl, rfl⟩
  | true => exact ⟨⟨some h, 2, .rw s, bs.length, imgs, true, 6⟩, by simp [psFin, Y5, psEnd], by simp, rfl, rfl⟩
end

end Go.Proofs.YtggamdlpiejbiaaGreat
namespace Go.Proofs.YtggamdlpiejbiaaGreat
open Go.RowKit Go.Shelf


theorem u8s_from (bs : List Int) (L : Nat) : ((Xa bs).drop (L * 1)).take ((bs.length - L) * 1) = Xa (bs.drop L) := by
  rw [Nat.mul_one, Nat.mul_one, List.take_of_length_le (by simp [Xa])]
  simp [Xa, List.map_drop]
end Go.Proofs.YtggamdlpiejbiaaGreat
namespace Go.Proofs.YtggamdlpiejbiaaGreat
open Go.RowKit Go.Shelf

structure Img where
  (c m w h : Int) (px : List Int)
def im0 : Img := ⟨0, 0, 0, 0, []⟩
end Go.Proofs.YtggamdlpiejbiaaGreat
namespace Go.Proofs.YtggamdlpiejbiaaGreat
open Go.RowKit Go.Shelf


/-- What an image is made of, as it lies. -/
structure GS where
  (three : Bool) (mx w h : Int) (a : Option Addr) (c : Nat) (zs : List Int)
def gC (g : GS) : List Value := [.bool g.three, .int .i64 g.mx, .int .i64 g.w, .int .i64 g.h, .slice g.a g.zs.length g.c]
end Go.Proofs.YtggamdlpiejbiaaGreat
namespace Go.Proofs.YtggamdlpiejbiaaGreat
open Go.RowKit Go.Shelf


/-- The kinds that may tell a format. -/
def kP (C M : Int) (k : Nat) : Bool := decide (1 ≤ k) && decide (((k : Int) % 3 = 0 ↔ C = 3) ∧ ((k : Int) % 3 ≠ 1 ∨ M = 1))
def kUp (C M : Int) (k : Nat) : List Int := ((List.range k).filter (kP C M)).map fun i : Nat => (i : Int)
theorem kUp_y {C M : Int} {k : Nat} (h : kP C M k = true) : kUp C M (k + 1) = kUp C M k ++ [(k : Int)] := by unfold kUp; rw [List.range_succ, List.filter_append, List.map_append]; simp [h]
theorem kUp_n {C M : Int} {k : Nat} (h : kP C M k = false) : kUp C M (k + 1) = kUp C M k := by unfold kUp; rw [List.range_succ, List.filter_append, List.map_append]; simp [h]
theorem kUp_one {C M : Int} : kUp C M 1 = [] := by unfold kUp kP; simp [List.range_succ]
theorem kUp_len {C M : Int} {k : Nat} : (kUp C M k).length ≤ k := by
  unfold kUp
  rw [List.length_map]
  exact Nat.le_trans (List.length_filter_le _ _) (by rw [List.length_range]; exact Nat.le_refl _)
def QL (C M : Int) : List Int := if Yf C M then kUp C M 7 else []
structure KdX where
  (k : Nat) (out : List Int) (a : Option Addr) (c : Nat)

theorem YY (C M : Int) : Fn Tryz.prog 36 #[.agg #[.int .i64 C, .int .i64 M]] [] (fun v l => ∃ a c, v = .slice a (QL C M).length c ∧ l = [QH 3 1 a c (QL C M).length (QS (QL C M))]) := by
 refine Ql (vs := [.agg #[.int .i64 C, .int .i64 M]]) Tryz.func36 rfl Tryz.ntmps36 rfl (Qb (Qa (Q2 rfl rfl rfl ?_)))
 intro gF
 refine Qe rfl rfl (WpL.nil (Qb (Qa ?_)))
 refine QD (vs := [_, _]) rfl rfl rfl (by rfl) ?_
 refine Qh rfl rfl (by repeat' constructor) (rFormat1_spec _ _) ?_
 rintro _ _ ⟨rfl, rfl⟩
 simp only [Qq]
 refine Qe rfl rfl (WpL.nil (Qb (Qb (Qa (Qc rfl rfl (XR rfl rfl (WpL.nil (Qn rfl (fun h0 => ?_) (fun h0 => ?_)))))))))
 ·refine Qb (Qa (Qe rfl rfl (WpL.nil (Qi ?_))))
  apply RetQ.mk
  ·exact (Res.one rfl rfl)
  ·exact ⟨none, 0, by rw [QL, if_neg (by assumption)]; rfl, rfl⟩
  ·rw [show QL C M = [] from if_neg (by assumption)]
   exact Ent.own_nil (Ent.nil _)
 ·refine Wp.skip (Qb (Qa (Qe rfl rfl (WpL.nil (Qb (Qb (Qa (Qe rfl rfl (WpL.nil (Wp.block ?_))))))))))
  refine Wp.loopD (σ := KdX) (fun x => 1 ≤ x.k ∧ x.k ≤ 7 ∧ x.out = kUp C M x.k) [4, 5, 10, 11, 12, 13, 14, 15, 16, 17, 18, 19, 20, 21, 22, 23, 24, 25, 26, 27, 28, 29, 30, 31, 32, 33, 34] (fun x => [(5, .int .i64 (x.k : Int)), (4, .slice x.a x.out.length x.c)]) (fun x => [QH 3 1 x.a x.c x.out.length (QS x.out), Qy gF [.int .i64 C, .int .i64 M] 48]) (fun x => 7 - x.k) ⟨1, [], none, 0⟩ ?_ (by repeat (first | exact FrLe.nil | refine FrLe.cons rfl ?_)) ?_ ?_
  ·exact ⟨Nat.le_refl _, by simp, kUp_one.symm⟩
  ·exact Ent.own_nil (Ent.refl _)
  ·rintro ⟨k, out, a, c⟩ ⟨hk1, hk7, ho⟩
   dsimp only at hk1 hk7 ho ⊢
   have hkl := kUp_len (C := C) (M := M) (k := k)
   rw [← ho] at hkl
   refine Qb (Qb (Qa (Qc rfl rfl (s_le rfl rfl rfl (WpL.nil (Qn rfl (fun h2 => ?_) (fun h2 => ?_)))))))
   ·refine Wp.skip (Qb (Wp.block ?_))
    refine Qb (Qa (Qc rfl rfl (s_rem rfl rfl rfl (by omega) (by omega) ?_)))
    refine QK rfl rfl rfl (Qj (o2 := 0) rfl rfl rfl (Qo rfl rfl (by rfl) ?_))
    refine QK rfl rfl rfl (s_beq rfl Tryz.underlying4 rfl rfl (Qc rfl rfl (QN rfl rfl rfl (fun hg1 => ?_) (fun hg1 => ?_))))
    ·refine Qc rfl rfl (Qf rfl rfl (s_rem rfl rfl rfl (by omega) (by omega) ?_))
     refine Qf rfl rfl (Xf rfl rfl rfl (Qf rfl rfl (Qc rfl rfl (QN rfl rfl rfl (fun hg2 => ?_) (fun hg2 => ?_)))))
     ·have hg2 := of_decide_eq_false hg2
      refine Qj (o2 := 1) rfl rfl rfl (Qf rfl rfl (Qo rfl rfl (by rfl) ?_))
      refine Qf rfl rfl (QK rfl rfl rfl (Qf rfl rfl (Qt rfl rfl rfl (Qz rfl rfl rfl (WpL.nil (Qn rfl (fun h3 => ?_) (fun h3 => ?_)))))))
      ·refine Qa (Qc rfl rfl (Qc rfl rfl ?_))
       refine s_bs1 rfl rfl rfl rfl ?_
       intro g2
       refine Yl rfl rfl rfl (by repeat' constructor) (by rfl) (by rfl) (by rfl) (by rfl) (by omega) (by omega) ?_
       intro a34 c34
       rw [Y3, show out.length + 1 = (out ++ [(k : Int)]).length from by simp]
       refine Qe rfl rfl (WpL.nil (Qa (Qc rfl rfl (QI rfl rfl rfl (Qv (by omega) (by omega)) ?_))))
       refine Qe rfl rfl (WpL.nil (QB (⟨k + 1, out ++ [(k : Int)], a34, c34⟩ : KdX) ?_ ?_ (by ((repeat (first | exact Top.refl | refine Top.push rfl ?_)); done)) (by repeat (first | exact FrLe.nil | refine FrLe.cons rfl ?_)) ?_))
       ·simp only [beq_iff_eq, decide_eq_decide] at hg1
        exact ⟨by simp only; omega, by simp only; omega, by simp only; rw [kUp_y (by unfold kP; simp only [Bool.and_eq_true, decide_eq_true_eq]; omega), ho]⟩
       ·simp only; omega
       ·exact Ent.refl _
      ·refine Wp.skip (Qa (Qc rfl rfl (QI rfl rfl rfl (Qv (by omega) (by omega)) ?_)))
       refine Qe rfl rfl (WpL.nil (QB (⟨k + 1, out, a, c⟩ : KdX) ?_ ?_ (by ((repeat (first | exact Top.refl | refine Top.push rfl ?_)); done)) (by repeat (first | exact FrLe.nil | refine FrLe.cons rfl ?_)) ?_))
       ·simp only [beq_iff_eq, decide_eq_decide] at hg1
        exact ⟨by simp only; omega, by simp only; omega, by simp only; rw [kUp_n (by rw [Bool.eq_false_iff]; unfold kP; simp only [ne_eq, Bool.and_eq_true, decide_eq_true_eq]; omega), ho]⟩
       ·simp only; omega
       ·exact Ent.refl _
     ·have hg2 := of_decide_eq_true hg2
      refine Qd rfl rfl rfl (by decide) (Qd rfl rfl rfl (by decide) (Qf rfl rfl (Qz rfl rfl rfl (Qz rfl rfl rfl (WpL.nil (XK rfl (Qa (Qc rfl rfl (Qc rfl rfl ?_)))))))))
      refine s_bs1 rfl rfl rfl rfl ?_
      intro g3
      refine Yl rfl rfl rfl (by repeat' constructor) (by rfl) (by rfl) (by rfl) (by rfl) (by omega) (by omega) ?_
      intro a34 c34
      rw [Y3, show out.length + 1 = (out ++ [(k : Int)]).length from by simp]
      refine Qe rfl rfl (WpL.nil (Qa (Qc rfl rfl (QI rfl rfl rfl (Qv (by omega) (by omega)) ?_))))
      refine Qe rfl rfl (WpL.nil (QB (⟨k + 1, out ++ [(k : Int)], a34, c34⟩ : KdX) ?_ ?_ (by ((repeat (first | exact Top.refl | refine Top.push rfl ?_)); done)) (by repeat (first | exact FrLe.nil | refine FrLe.cons rfl ?_)) ?_))
      ·simp only [beq_iff_eq, decide_eq_decide] at hg1
       exact ⟨by simp only; omega, by simp only; omega, by simp only; rw [kUp_y (by unfold kP; simp only [Bool.and_eq_true, decide_eq_true_eq]; omega), ho]⟩
      ·simp only; omega
      ·exact Ent.refl _
    ·refine Qd rfl rfl rfl (by decide) (Qd rfl rfl rfl (by decide) (Qd rfl rfl rfl (by decide) (QW rfl rfl rfl (QW rfl rfl rfl (QW rfl rfl rfl (Qd rfl rfl rfl (by decide) (Qt rfl rfl rfl (WpL.nil (Q0 rfl (Wp.skip (Qa (Qc rfl rfl ?_))))))))))))
     refine QI rfl rfl rfl (Qv (by omega) (by omega)) ?_
     refine Qe rfl rfl (WpL.nil (QB (⟨k + 1, out, a, c⟩ : KdX) ?_ ?_ (by ((repeat (first | exact Top.refl | refine Top.push rfl ?_)); done)) (by repeat (first | exact FrLe.nil | refine FrLe.cons rfl ?_)) ?_))
     ·simp only [Bool.not_true, beq_eq_false_iff_ne, ne_eq, decide_eq_decide] at hg1
      exact ⟨by simp only; omega, by simp only; omega, by simp only; rw [kUp_n (by rw [Bool.eq_false_iff]; unfold kP; simp only [ne_eq, Bool.and_eq_true, decide_eq_true_eq]; omega), ho]⟩
     ·simp only; omega
     ·exact Ent.refl _
   ·have ho2 : out = QL C M := by rw [QL, if_pos (Classical.not_not.1 h0), ho, show k = 7 by omega]
    subst ho2
    refine QU (Qb (Qa (Qc rfl rfl (Qe rfl rfl (WpL.nil (Qi ?_))))))
    apply RetQ.mk
    ·exact (Res.one rfl rfl)
    ·exact ⟨a, c, rfl, rfl⟩
    ·exact Take.ent' (by repeat' constructor)

end Go.Proofs.YtggamdlpiejbiaaGreat
namespace Go.Proofs.YtggamdlpiejbiaaGreat
open Go.RowKit Go.Shelf


theorem kinds_len {C M : Int} : (QL C M).length ≤ 7 := by
  unfold QL
  split
  · exact kUp_len
  · simp
end Go.Proofs.YtggamdlpiejbiaaGreat
namespace Go.Proofs.YtggamdlpiejbiaaGreat
open Go.RowKit Go.Shelf


def XV (w h : Int) : Prop := (1 ≤ w ∧ w ≤ 4096) ∧ (1 ≤ h ∧ h ≤ 65536) ∧ w * h ≤ 16777216
instance (w h : Int) : Decidable (XV w h) := by unfold XV; infer_instance
def Ym (C M W H : Int) (px : List Int) : Prop := XV W H ∧ (px.length : Int) = W * H ∧ ∀ p ∈ px, X3 p C M
instance (C M W H : Int) (px : List Int) : Decidable (Ym C M W H px) := by unfold Ym; infer_instance
theorem Take1.mid {A : HP} {As : List HP} : ∀ (Bs : List HP), Take1 (Bs ++ A :: As) A (Bs ++ As)
  | [] => .here
  | _ :: Bs => .there (Take1.mid Bs)
theorem Take.underL (Bs : List HP) : ∀ (As : List HP), Take (Bs ++ As) As Bs
  | [] => by rw [List.append_nil]; exact .nil
  | _ :: As => .cons (Take1.mid Bs) (Take.underL Bs As)
theorem Ent.left : ∀ (As F : List HP), Ent (As ++ F) As
  | [], _ => Ent.nil _
  | _ :: As, F => Ent.cons (Ent.left As F)
theorem sz_mul {w h : Int} (hw : 1 ≤ w ∧ w ≤ 4096) (hh : 1 ≤ h ∧ h ≤ 65536) : 0 ≤ w * h ∧ w * h ≤ 4096 * 65536 := ⟨Int.mul_nonneg (by omega) (by omega), Int.mul_le_mul (by omega) (by omega) (by omega) (by omega)⟩

end Go.Proofs.YtggamdlpiejbiaaGreat
namespace Go.Proofs.YtggamdlpiejbiaaGreat
open Go.RowKit Go.Shelf

def hdW (K W H M : Int) : List Int := [80] ++ X7 K.toNat ++ [10] ++ X7 W.toNat ++ [32] ++ X7 H.toNat ++ [10] ++ (if K = 1 ∨ K = 4 then [] else X7 M.toNat ++ [10])
theorem lit1 (x : UInt8) : (ByteArray.mk #[x]).size = 1 := rfl
theorem digs_sz {n : Int} (h : n ≤ 1000000) : (strOfNums (X7 n.toNat)).size ≤ 1000001 := by
  rw [YG]
  have := digs_len n.toNat
  omega

end Go.Proofs.YtggamdlpiejbiaaGreat
namespace Go.Proofs.YtggamdlpiejbiaaGreat
open Go.RowKit Go.Shelf


/-- The bits of a byte so far. -/
def hv (l : List Int) (j : Nat) : Nat → Int
  | 0 => 0
  | t + 1 => hv l j t * 2 + (l[8 * j + t]?.getD 0)
end Go.Proofs.YtggamdlpiejbiaaGreat
namespace Go.Proofs.YtggamdlpiejbiaaGreat
open Go.RowKit Go.Shelf
/-- A block whose first cells are these. -/
def rdo (g : Nat) (xs : List Value) : HP where
  p w S := (∀ b, S b ↔ b = g) ∧ g < w.heap.size ∧ ∀ (j : Nat) (u : Value), xs[j]? = some u → w.cell? ⟨g, j, none⟩ = some u
  loc := fun ⟨hs, hg, h⟩ hz hb => ⟨hs, Nat.lt_of_lt_of_le hg hz, fun j u hu => by rw [← h j u hu]; exact cell_same (hb _ ((hs _).2 rfl))⟩
  lt := fun ⟨hs, hg, _⟩ b hb => by rw [(hs b).1 hb]; exact hg
theorem RdsL.rdo {g : Nat} {xs : List Value} : RdsL [Go.Proofs.YtggamdlpiejbiaaGreat.rdo g xs] (some ⟨g, 0, none⟩) xs := by
  intro w U ⟨S, ⟨_, _, h⟩, _⟩
  refine ⟨fun _ => rfl, fun ad had j u hu => ?_⟩
  injection had with had
  subst had
  have := h j u hu
  simpa [Addr.add] using (by by_cases hj : j = 0 <;> simpa [Addr.add, hj] using this : w.cell? ((⟨g, 0, none⟩ : Addr).add j) = some u)
theorem bytes_below (w : World) (e : Nat) (s : ByteArray) : Below w.heap.size w (Lib.bytesWorld w e s) := by
  refine ⟨?_, ?_, ?_, ?_, ?_⟩
  · simp [Lib.bytesWorld, World.freeze, World.alloc, World.drew, -World.alloc_eq, -World.drew_eq]
  · simp [Lib.bytesWorld, World.freeze, World.alloc, World.drew, -World.alloc_eq, -World.drew_eq]
  · simp [Lib.bytesWorld, World.freeze, World.alloc, World.drew, -World.alloc_eq, -World.drew_eq]
  · rw [Lib.bytesWorld_size]; omega
  · intro b hb; exact Lib.bytesWorld_at_old w e s b hb
section
variable {P : Program} {n : Cx} {D : List Deferred} {ops : Array Oper} {rest : List Oper} {Q : Post} {fr : Fr} {l : List HP} {ty : Nat} {pos : String} {aft : Array Edge}
theorem out_bytes {w : World} {U : Nat → Prop} (h : Sat w l U) (e : Nat) (s : ByteArray) : Out (rdo w.heap.size (Xa (QP s)) :: l) U w (Lib.bytesWorld w e s) := by
  have hb := bytes_below w e s
  have h2 : Sat (Lib.bytesWorld w e s) l (fun b => U b ∧ b < w.heap.size) := h.inside.keep hb.size fun b _ hlt => hb.block b hlt
  refine ⟨⟨fun b => b = w.heap.size, ⟨fun _ => Iff.rfl, by rw [Lib.bytesWorld_size]; omega, fun j u hu => ?_⟩, fun b hb => .inr (Nat.le_of_eq hb.symm), h2.mono fun b hb => ⟨.inl hb.1, fun e => ?_⟩⟩, .of_below hb⟩
  · have hj : j < (QP s).length := by
      have := List.getElem?_eq_some_iff.1 hu
      rw [← QV]; exact this.1
    rw [Yu _ hj] at hu
    injection hu with hu
    have hj2 : j < s.size := by rw [Xo] at hj; exact hj
    rw [← hu, Lib.bytesWorld_cell w e s j hj2]
    rw [bsOf_at hj2]
    simp [List.getD, hj2]
    rfl
  · rw [e] at hb; exact absurd hb.2 (Nat.lt_irrefl _)
theorem s_t2b {d T1 T2 e : Nat} {x : Operand} {s : ByteArray} (hd : Nat.blt d n = true) (h1 : P.underlying T1 = some .string) (h2 : P.underlying T2 = some (.slice e)) (h3 : P.underlying e = some (.int .u8)) (hx : ev fr x = some (.string s))
    (k : ∀ g c, WpL P n D ops rest Q ((d, .slice (some ⟨g, 0, none⟩) (QP s).length c) :: fr) (rdo g (Xa (QP s)) :: l)) : WpL P n D ops (⟨some d, .convert T1 T2 x, ty, pos, aft, none⟩ :: rest) Q fr l :=
  Xs hd (σ := Nat × Nat) (fun q => .slice (some ⟨q.1, 0, none⟩) (QP s).length q.2) (fun q => rdo q.1 (Xa (QP s)) :: l) (fun a w U hh hs => ⟨(w.heap.size, grownCap w s.size 0 e), _, by rw [Xo]; simp [execOp, hh.ev hx, Lib.run_convert_string_bytes w T1 T2 e s h1 h2 h3], out_bytes hs e s⟩) fun q => k q.1 q.2
end
end Go.Proofs.YtggamdlpiejbiaaGreat
namespace Go.Proofs.YtggamdlpiejbiaaGreat
open Go.RowKit Go.Shelf


theorem kinds_mem {C M k : Int} (h : k ∈ QL C M) : Yf C M ∧ (1 ≤ k ∧ k ≤ 6) ∧ QT k = C ∧ ((k = 1 ∨ k = 4) → M = 1) := by
  unfold QL at h
  split at h
  · rename_i hf
    obtain ⟨i, hi, rfl⟩ := List.mem_map.1 h
    obtain ⟨h1, h2⟩ := List.mem_filter.1 hi
    unfold kP at h2
    simp only [Bool.and_eq_true, decide_eq_true_eq] at h2
    have h3 := List.mem_range.1 h1
    refine ⟨hf, by omega, ?_, by omega⟩
    have := hf.1
    unfold QT
    split <;> omega
  · simp at h
/-- An image's bytes. -/
def wrI (m : Img) (k : Int) : List Int := hdW k m.w m.h m.m ++ (if k < 4 then wrL k m.w 0 m.px else Q7 k m.w.toNat (Qg m.m) m.px m.h.toNat)
end Go.Proofs.YtggamdlpiejbiaaGreat
namespace Go.Proofs.YtggamdlpiejbiaaGreat
open Go.RowKit Go.Shelf


theorem s_bs4 {P : Program} {n : Cx} {D : List Deferred} {ops : Array Oper} {rest : List Oper} {Q : Post} {fr : Fr} {l : List HP} {ty : Nat} {pos : String} {aft : Array Edge} {d t e by_ : Nat} {z v v2 v3 v4 : Value} {x x2 x3 x4 : Operand} (hd : Nat.blt d n = true) [ht : SlT P t e 1 by_ z] (hx : ev fr x = some v) (hx2 : ev fr x2 = some v2) (hx3 : ev fr x3 = some v3) (hx4 : ev fr x4 = some v4) (hz : z.cells.size = 1)
    (hv : v.cells = #[v]) (hv2 : v2.cells = #[v2]) (hv3 : v3.cells = #[v3]) (hv4 : v4.cells = #[v4])
    (k : ∀ g, WpL P n D ops rest Q ((d, .slice (some ⟨g, 0, none⟩) 4 4) :: fr) (Qy g [v, v2, v3, v4] e :: l)) : WpL P n D ops (⟨some d, .buildSlice t 4 #[(0, x), (1, x2), (2, x3), (3, x4)], ty, pos, aft, none⟩ :: rest) Q fr l :=
  s_bs (os := [(0, x), (1, x2), (2, x3), (3, x4)]) [v, v2, v3, v4] hd hz rfl (by simp [hv, hv2, hv3, hv4]) (by simp) (fun a hh => by simp [hh.ev hx, hh.ev hx2, hh.ev hx3, hh.ev hx4]) k

end Go.Proofs.YtggamdlpiejbiaaGreat
namespace Go.Proofs.YtggamdlpiejbiaaGreat
open Go.RowKit Go.Shelf


theorem bsOf_bd (s : ByteArray) : ∀ b ∈ QP s, 0 ≤ b ∧ b ≤ 255 := by
  intro b hb
  unfold QP at hb
  obtain ⟨x, _, rfl⟩ := List.mem_map.1 hb
  have := UInt8.toNat_lt x
  omega
end Go.Proofs.YtggamdlpiejbiaaGreat
namespace Go.Proofs.YtggamdlpiejbiaaGreat
open Go.RowKit Go.Shelf

def YX (es : List Evt) : Int := ((es.filter fun x => decide (x.k = 3)).length : Int)
theorem cnt3_app (a b : List Evt) : YX (a ++ b) = YX a + YX b := by unfold YX; rw [List.filter_append, List.length_append]; push_cast; rfl
def EvOk (es : List Evt) : Prop := ∀ x ∈ es.tail, x.row = []
theorem psEvts_q (s : PS) (bd : Bd) (st e : Int) (row : List Int) : (Yb s bd st e row).1.told = s.told ∧ (Yb s bd st e row).1.imgs = s.imgs + YX (Yb s bd st e row).2 ∧ EvOk (Yb s bd st e row).2 ∧ (Yb s bd st e row).1.over = s.over := by
  unfold Yb rowE doneE
  by_cases h1 : st = 1 <;> by_cases h2 : st = 2 <;> by_cases h3 : row = [] <;> simp [h1, h2, h3, YX, EvOk]
  all_goals (subst h2; simp_all)
theorem psHeads_q (s : PS) (h : HS) : (YU s h).1.told = s.told ∧ (YU s h).1.imgs = s.imgs + YX (YU s h).2 ∧ EvOk (YU s h).2 ∧ (YU s h).1.over = s.over := by
  unfold YU
  repeat' split
  all_goals simp [YX, EvOk]
theorem psStep_q (l0 l1 l2 : Int) (s : PS) (c : Int) : (psStep l0 l1 l2 s c).1.told = s.told ∧ (psStep l0 l1 l2 s c).1.imgs = s.imgs + YX (psStep l0 l1 l2 s c).2 ∧ EvOk (psStep l0 l1 l2 s c).2 ∧ (psStep l0 l1 l2 s c).1.over = s.over := by
  unfold psStep
  split
  · split
    · simp [YX, EvOk]
    · exact psHeads_q _ _
  · split
    · exact psHeads_q _ _
    · unfold psBody
      split
      · simp [YX, EvOk]
      · exact psEvts_q _ _ _ _ _
      · exact psEvts_q _ _ _ _ _
def aliveP (s : PS) : Prop := s.over = false ∧ s.e = 0
theorem dead_of {s : PS} (h : ¬ aliveP s) : s.over = true ∨ s.e ≠ 0 := by
  unfold aliveP at h
  by_cases he : s.e = 0
  · left; cases ho : s.over with
    | true => rfl
    | false => exact absurd ⟨ho, he⟩ h
  · exact .inr he
theorem psPut_q (l0 l1 l2 : Int) (s : PS) (c : Int) : ((Yc l0 l1 l2 s c).2 ≠ [] → aliveP s) ∧ (aliveP (Yc l0 l1 l2 s c).1 → aliveP s) ∧ (aliveP s → (Yc l0 l1 l2 s c).1.told = s.told + 1) ∧ (Yc l0 l1 l2 s c).1.imgs = s.imgs + YX (Yc l0 l1 l2 s c).2 ∧ EvOk (Yc l0 l1 l2 s c).2 := by
  by_cases h : aliveP s
  · rw [psPut_ok _ _ _ h.1 h.2]
    have q := psStep_q l0 l1 l2 { s with told := s.told + 1 } c
    exact ⟨fun _ => h, fun _ => h, fun _ => q.1, q.2.1, q.2.2.1⟩
  · rw [psPut_dead _ _ _ (dead_of h)]
    exact ⟨fun q => absurd rfl q, fun q => absurd q h, fun q => absurd q h, by simp [YX], by simp [EvOk]⟩
theorem Za (l0 l1 l2 : Int) : ∀ (bs : List Int) (s : PS), (Q6 l0 l1 l2 s bs).1.imgs = s.imgs + YX ((Q6 l0 l1 l2 s bs).2.map (·.1))
  | [], s => by simp [Q6, YX]
  | c :: bs, s => by
    rw [YL]
    have q := psPut_q l0 l1 l2 s c
    have ih := Za l0 l1 l2 bs (Yc l0 l1 l2 s c).1
    simp only [Y5, List.map_append, cnt3_app, List.map_map]
    rw [ih, q.2.2.2.1, show ((fun x : Evt × Int => x.1) ∘ fun x => (x, (Yc l0 l1 l2 s c).1.told)) = id from rfl, List.map_id]
    omega
end Go.Proofs.YtggamdlpiejbiaaGreat
namespace Go.Proofs.YtggamdlpiejbiaaGreat
open Go.RowKit Go.Shelf
def okFs (P : Program) : Nat → List Field → Bool
  | _, [] => true
  | i, f :: fs => (f.name != "_") && (f.offset == i) && (match P.underlying f.type with | some (.int .i64) => true | _ => false) && P.plainKey f.type && okFs P (i + 1) fs
theorem run_eqFields {P : Program} (d : Nat) (us vs : List Int) (hl : us.length = vs.length) (w : World) : ∀ (fs : List Field) (i : Nat), i + fs.length = us.length → okFs P i fs = true → (Op.eqFields (d + 1) (QS us).toArray (QS vs).toArray fs).run P w = .ok (decide (us.drop i = vs.drop i)) w
  | [], i, hi, _ => by
    simp only [List.length_nil] at hi
    rw [List.drop_of_length_le (by omega), List.drop_of_length_le (by omega)]
    simp [Op.eqFields]
  | f :: fs, i, hi, hk => by
    simp only [List.length_cons] at hi
    simp only [okFs, Bool.and_eq_true, bne_iff_ne, beq_iff_eq] at hk
    obtain ⟨⟨⟨⟨h1, h2⟩, h3⟩, h4⟩, h5⟩ := hk
    have hu : P.underlying f.type = some (.int .i64) := by
      split at h3
      · assumption
      · cases h3
    have e1 : (part f.type (QS us).toArray f.offset).run P w = .ok (.int .i64 (us[i]'(by omega))) w := run_part_plain w h4 (by rw [h2]; simp [QS, List.getElem?_eq_getElem (show i < us.length by omega)])
    have e2 : (part f.type (QS vs).toArray f.offset).run P w = .ok (.int .i64 (vs[i]'(by omega))) w := run_part_plain w h4 (by rw [h2]; simp [QS, List.getElem?_eq_getElem (show i < vs.length by omega)])
    have ih := run_eqFields (P := P) d us vs hl w fs (i + 1) (by omega) h5
    unfold Op.eqFields
    rw [if_pos h1]
    simp only [Sem.run_bind, e1, e2, Result.andThen_ok, run_equalIn_int w d f.type .i64 .i64 _ _ hu]
    have d1 := List.drop_eq_getElem_cons (show i < us.length by omega)
    have d2 := List.drop_eq_getElem_cons (show i < vs.length by omega)
    by_cases hx : us[i]'(by omega) = vs[i]'(by omega)
    · rw [if_neg (by simp [hx]), ih]
      have q : us.drop (i + 1) = vs.drop (i + 1) ↔ us.drop i = vs.drop i := by
        rw [d1, d2, hx]
        exact ⟨fun e => by rw [e], fun e => (List.cons.inj e).2⟩
      rw [decide_eq_decide.2 q]
    · rw [if_pos (by simp [hx])]
      have q : ¬ us.drop i = vs.drop i := by
        rw [d1, d2]
        exact fun e => hx (List.cons.inj e).1
      rw [decide_eq_false q]
      simp
class AeqT (P : Program) (T : Nat) (k : outParam Nat) : Prop where
  hu : P.underlying T = some (.struct (P.fieldsOf T))
  st : P.stoodInHeld T = false
  gd : P.eqGuardType P.depth T = false
  ok : okFs P 0 (P.fieldsOf T).toList = true
  hk : (P.fieldsOf T).toList.length = k
section
variable {P : Program} {n : Cx} {D : List Deferred} {ops : Array Oper} {rest : List Oper} {Q : Post} {fr : Fr} {l : List HP} {ty : Nat} {pos : String} {aft : Array Edge}
theorem run_aeq {T k : Nat} (hT : AeqT P T k) (us vs : List Int) (h1 : us.length = k) (h2 : vs.length = k) (w : World) : (Op.equalIn 10000 T (.agg (QS us).toArray) (.agg (QS vs).toArray)).run P w = .ok (decide (us = vs)) w := by
  rw [run_equalIn_struct w 9999 T _ _ hT.hu hT.st]
  have := run_eqFields (P := P) 9998 us vs (by omega) w (P.fieldsOf T).toList 0 (by rw [hT.hk]; omega) hT.ok
  simpa using this
theorem s_aeq {d T T2 k : Nat} {x y : Operand} (us vs : List Int) (hd : Nat.blt d n = true) [hT : AeqT P T k] (hx : ev fr x = some (.agg (QS us).toArray)) (hy : ev fr y = some (.agg (QS vs).toArray)) (h1 : us.length = k) (h2 : vs.length = k)
    (kk : WpL P n D ops rest Q ((d, .bool (decide (us = vs))) :: fr) l) : WpL P n D ops (⟨some d, .binOp .eql T x y T2, ty, pos, aft, none⟩ :: rest) Q fr l :=
  QE hd (fun A w _ hh _ => by
    simp only [execOp, hh.ev hx, hh.ev hy, Sem.run_bind, run_eqGuard_agg w .eql T x y _ _ hT.gd, Result.andThen_ok, run_eql_struct, run_aeq hT us vs h1 h2]
    simp) kk
end
end Go.Proofs.YtggamdlpiejbiaaGreat
