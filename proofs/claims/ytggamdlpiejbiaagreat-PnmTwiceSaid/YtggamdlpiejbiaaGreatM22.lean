/- Walks and plain laws, a part of the proof of PnmTwice: every input that the law's guards let in, no condition beside. -/
import Derived.Test.YtggamdlpiejbiaaGreatM21
namespace Go.Proofs.YtggamdlpiejbiaaGreat
open Go.RowKit Go.Shelf

def atE (es : List Evt) (n : Int) : List (Evt × Int) := es.map fun x => (x, n)
def Zn (n : Int) : Evt × Int := (⟨3, 0, 0, 0, 0, []⟩, n)
theorem YK (l0 l1 l2 : Int) {h : HS} {bd bd' : Bd} {told imgs c st e : Int} {row bs : List Int} (hp : Xq l0 l1 l2 ⟨some h, 2, bd, told, imgs, false, 0⟩ c = Xx ⟨some h, 2, bd, told + 1, imgs, false, 0⟩ bd' st e row) :
    (st = 0 → QF l0 l1 l2 ⟨some h, 2, bd, told, imgs, false, 0⟩ (c :: bs) = XR (atE (XB row) (told + 1)) (QF l0 l1 l2 ⟨some h, 2, bd', told + 1, imgs, false, 0⟩ bs)) ∧
    (st = 1 → QF l0 l1 l2 ⟨some h, 2, bd, told, imgs, false, 0⟩ (c :: bs) = XR (atE (XB row) (told + 1) ++ [Zn (told + 1)]) (QF l0 l1 l2 ⟨some h, 0, .no, told + 1, imgs + 1, false, 0⟩ bs)) ∧
    (st = 2 → e ≠ 0 → QF l0 l1 l2 ⟨some h, 2, bd, told, imgs, false, 0⟩ (c :: bs) = (⟨some h, 2, bd', told + 1, imgs, false, e⟩, atE (XB row) (told + 1))) := by
  refine ⟨fun hs => ?_, fun hs => ?_, fun hs he => ?_⟩
  · subst hs
    rw [XK, hp]
    simp [Xx, XA, atE]
  · subst hs
    rw [XK, hp]
    simp [Xx, XA, atE, Zn]
  · subst hs
    rw [XK, hp]
    simp only [Xx, if_true, XA, show ¬ (2 : Int) = 1 from by decide, if_false, List.append_nil]
    rw [psRun_dead _ _ _ _ (.inr he)]
    simp [XR, atE]
theorem put_pl (l0 l1 l2 : Int) {h : HS} {r : RS} {told imgs c : Int} : Xq l0 l1 l2 ⟨some h, 2, .pl r, told, imgs, false, 0⟩ c = Xx ⟨some h, 2, .pl r, told + 1, imgs, false, 0⟩ (.pl (Xw h.K h.W h.H h.M r c).1) (Xw h.K h.W h.H h.M r c).1.last (Xw h.K h.W h.H h.M r c).1.e (Xw h.K h.W h.H h.M r c).2 := by
  rw [ZC _ _ _ rfl rfl]
  exact (if_neg (show ¬ (2 : Int) = 0 by decide)).trans (if_neg (show ¬ (2 : Int) = 1 by decide))
theorem put_rw (l0 l1 l2 : Int) {h : HS} {r : RW} {told imgs c : Int} : Xq l0 l1 l2 ⟨some h, 2, .rw r, told, imgs, false, 0⟩ c = Xx ⟨some h, 2, .rw r, told + 1, imgs, false, 0⟩ (.rw (Xo h.K h.W.toNat h.H h.M r c).1) (Xo h.K h.W.toNat h.H h.M r c).1.last (Xo h.K h.W.toNat h.H h.M r c).1.e (Xo h.K h.W.toNat h.H h.M r c).2 := by
  rw [ZC _ _ _ rfl rfl]
  exact (if_neg (show ¬ (2 : Int) = 0 by decide)).trans (if_neg (show ¬ (2 : Int) = 1 by decide))
/-- How a plain raster stands in the reference: its reader, the place, the events. -/
def plI (l0 l1 l2 : Int) (h : HS) (bs : List Int) (at0 : Nat) (imgs : Int) (r : RS) (at_ : Nat) (out : List (Evt × Int)) : Prop :=
  (r.last = 0 → QF l0 l1 l2 ⟨some h, 2, .pl s0R, at0, imgs, false, 0⟩ (bs.drop at0) = XR out (QF l0 l1 l2 ⟨some h, 2, .pl r, at_, imgs, false, 0⟩ (bs.drop at_))) ∧
  (r.last = 1 → QF l0 l1 l2 ⟨some h, 2, .pl s0R, at0, imgs, false, 0⟩ (bs.drop at0) = XR (out ++ [Zn at_]) (QF l0 l1 l2 ⟨some h, 0, .no, at_, imgs + 1, false, 0⟩ (bs.drop at_))) ∧
  (r.last = 2 → r.e ≠ 0 → QF l0 l1 l2 ⟨some h, 2, .pl s0R, at0, imgs, false, 0⟩ (bs.drop at0) = (⟨some h, 2, .pl r, at_, imgs, false, r.e⟩, out))
theorem plI0 (l0 l1 l2 : Int) (h : HS) (bs : List Int) (at0 : Nat) (imgs : Int) : plI l0 l1 l2 h bs at0 imgs s0R at0 [] := ⟨fun _ => rfl, fun h => absurd h (by simp [s0R]), fun h => absurd h (by simp [s0R])⟩
theorem plI_step {l0 l1 l2 : Int} {h : HS} {bs : List Int} {at0 : Nat} {imgs : Int} {r r' : RS} {at_ : Nat} {out : List (Evt × Int)} {c : Int} {row : List Int} (hI : plI l0 l1 l2 h bs at0 imgs r at_ out) (hl : r.last = 0) (hc : bs.drop at_ = c :: bs.drop (at_ + 1)) (hp : (r', row) = Xw h.K h.W h.H h.M r c) : plI l0 l1 l2 h bs at0 imgs r' (at_ + 1) (out ++ atE (XB row) ((at_ + 1 : Nat) : Int)) := by
  have h0 := hI.1 hl
  have hq := put_pl l0 l1 l2 (h := h) (r := r) (told := at_) (imgs := imgs) (c := c)
  rw [← hp] at hq
  have hr := YK l0 l1 l2 (bs := bs.drop (at_ + 1)) hq
  rw [hc] at h0
  have hcast : ((at_ + 1 : Nat) : Int) = (at_ : Int) + 1 := by push_cast; rfl
  refine ⟨fun hs => ?_, fun hs => ?_, fun hs he => ?_⟩
  · rw [h0, hr.1 hs, Ys, hcast]
  · rw [h0, hr.2.1 hs, Ys, List.append_assoc, hcast]
  · rw [h0, hr.2.2 hs he, hcast]; rfl
theorem pl_done {l0 l1 l2 : Int} {fin : Bool} {h : HS} {bs : List Int} {at0 : Nat} {imgs : Int} {r : RS} {at_ : Nat} {out : List (Evt × Int)} (hI : plI l0 l1 l2 h bs at0 imgs r at_ out) (hl : r.last = 1) : Y4 l0 l1 l2 fin h (.pl s0R) bs at0 imgs (out ++ [Zn at_]) at_ 0 := by
  refine ⟨fun _ => ?_, fun q => absurd rfl q⟩
  rw [Int.toNat_natCast, Int.toNat_natCast, hI.2.1 hl, YG]
theorem pl_wrong {l0 l1 l2 : Int} {fin : Bool} {h : HS} {bs : List Int} {at0 : Nat} {imgs : Int} {r : RS} {at_ : Nat} {out : List (Evt × Int)} (hI : plI l0 l1 l2 h bs at0 imgs r at_ out) (hl : r.last = 2) (he : r.e ≠ 0) (h9 : r.e ≠ 9) : Y4 l0 l1 l2 fin h (.pl s0R) bs at0 imgs out at_ r.e := by
  refine ⟨fun q => absurd q he, fun _ => ⟨⟨some h, 2, .pl r, at_, imgs, false, r.e⟩, ?_, by rw [if_neg h9], rfl, rfl⟩⟩
  rw [Int.toNat_natCast, hI.2.2 hl he]
  exact psFin_dead (.inr he)
theorem pl_open {l0 l1 l2 : Int} {h : HS} {bs : List Int} {at0 : Nat} {imgs : Int} {r : RS} {at_ : Nat} {out : List (Evt × Int)} (hI : plI l0 l1 l2 h bs at0 imgs r at_ out) (hl : r.last = 0) (hat : bs.length ≤ at_) : Y4 l0 l1 l2 false h (.pl s0R) bs at0 imgs out at_ 9 := by
  refine ⟨fun q => absurd q (by decide), fun _ => ⟨⟨some h, 2, .pl r, at_, imgs, false, 0⟩, ?_, by rw [if_pos rfl], rfl, rfl⟩⟩
  rw [Int.toNat_natCast, hI.1 hl, List.drop_of_length_le hat]
  simp [QF, XR, YT]
theorem end_pl {h : HS} {r : RS} {told imgs : Int} : Zo ⟨some h, 2, .pl r, told, imgs, false, 0⟩ = Xx ⟨some h, 2, .pl r, told, imgs, true, 0⟩ (.pl (Yd h.K h.W h.H r).1) (Yd h.K h.W h.H r).1.last (Yd h.K h.W h.H r).1.e (Yd h.K h.W h.H r).2 := if_neg (by simp)
theorem pl_end1 {l0 l1 l2 : Int} {h : HS} {bs : List Int} {at0 : Nat} {imgs : Int} {r r' : RS} {at_ : Nat} {out : List (Evt × Int)} {row : List Int} (hI : plI l0 l1 l2 h bs at0 imgs r at_ out) (hl : r.last = 0) (hat : bs.length ≤ at_) (he9 : h.e = 0) (hp : (r', row) = Yd h.K h.W h.H r) (h1 : r'.last = 1) :
    Y4 l0 l1 l2 true h (.pl s0R) bs at0 imgs ((out ++ atE (XB row) ((at_ : Int) + 1)) ++ [Zn ((at_ : Int) + 1)]) at_ 0 := by
  refine ⟨fun _ => ?_, fun q => absurd rfl q⟩
  have hq := end_pl (h := h) (r := r) (told := at_) (imgs := imgs)
  rw [← hp] at hq
  have hz : Zo ⟨some h, 0, .no, at_, imgs + 1, false, 0⟩ = (⟨some h, 0, .no, at_, imgs + 1, true, 0⟩, []) := (if_neg (by simp)).trans (if_neg (fun q => by have := q.2; simp [he9] at this))
  rw [Int.toNat_natCast, Int.toNat_natCast, hI.1 hl, List.drop_of_length_le hat]
  simp [QF, XR, YT, hq, Xx, XA, h1, hz, atE, Zn]
theorem pl_end2 {l0 l1 l2 : Int} {h : HS} {bs : List Int} {at0 : Nat} {imgs : Int} {r r' : RS} {at_ : Nat} {out : List (Evt × Int)} {row : List Int} (hI : plI l0 l1 l2 h bs at0 imgs r at_ out) (hl : r.last = 0) (hat : bs.length ≤ at_) (hp : (r', row) = Yd h.K h.W h.H r) (h1 : r'.last = 2) (he : r'.e ≠ 0) (h9 : r'.e ≠ 9) :
    Y4 l0 l1 l2 true h (.pl s0R) bs at0 imgs (out ++ atE (XB row) ((at_ : Int) + 1)) at_ r'.e := by
  have hq := end_pl (h := h) (r := r) (told := at_) (imgs := imgs)
  rw [← hp] at hq
  refine ⟨fun q => absurd q he, fun _ => ⟨⟨some h, 2, .pl r', at_, imgs, true, r'.e⟩, ?_, by rw [if_neg h9], rfl, rfl⟩⟩
  rw [Int.toNat_natCast, hI.1 hl, List.drop_of_length_le hat]
  simp [QF, XR, YT, hq, Xx, XA, h1, atE]
theorem putR_e9 {K W H M c : Int} {s : RS} (hl : s.last = 0) (h : (Xw K W H M s c).1.last = 2) : (Xw K W H M s c).1.e ≠ 9 := by
  have hk := (ZE K M s c).2.1
  unfold Xw at h ⊢
  rw [if_neg (by omega)] at h ⊢
  split at h
  · rename_i hr
    rw [if_pos hr]
    show (XV K M s c).2 ≠ 9
    have := @stepN_e (max s.n 0) c M
    unfold XV Z0 ZB
    repeat' split
    all_goals omega
  · rename_i hr
    exfalso
    unfold Xt at h
    split at h
    · rw [hk] at h; omega
    · simp only at h
      split at h
      · simp at h
      · rw [hk] at h; omega
theorem endR_e {K W H : Int} {s : RS} (hl : s.last = 0) (h : (Yd K W H s).1.last = 2) : (Yd K W H s).1.e = 6 := by
  have hk := (Ve (QT K) s).2.1
  unfold Yd at h ⊢
  rw [if_neg (by omega)] at h ⊢
  split at h
  · rename_i h1; rw [if_pos h1]; rfl
  · rename_i h1
    exfalso
    revert h h1
    unfold Xt
    split
    · intro h1 _; exact h1 (hk.trans hl)
    · simp only
      split
      · intro _ h; simp at h
      · intro h1 _; exact h1 (hk.trans hl)

end Go.Proofs.YtggamdlpiejbiaaGreat
namespace Go.Proofs.YtggamdlpiejbiaaGreat
open Go.RowKit Go.Shelf

def okUpto (K M : Int) (w : Nat) (r : List Int) (n : Nat) : Prop := K ≠ 4 → ∀ i, (i + 1) * w ≤ n → (i + 1) * w ≤ r.length → Xy w r i ≤ M
theorem set_take {b r : List Int} {k : Nat} (hk : k < r.length) (hb : k < b.length) (ht : b.take k = r.take k) : (b.set k r[k]).take (k + 1) = r.take (k + 1) := by
  rw [List.take_set, List.take_succ_eq_append_getElem hb, List.take_succ_eq_append_getElem hk, ht]
  rw [List.set_append_right _ _ (by rw [List.length_take]; omega)]
  simp [List.length_take, Nat.min_eq_left (Nat.le_of_lt hk)]
theorem smp_take {w : Nat} (hw : w = 1 ∨ w = 2) {b r : List Int} {k i : Nat} (ht : b.take k = r.take k) (hi : (i + 1) * w ≤ k) : Xy w b i = Xy w r i := by
  have hq : ∀ j, j < k → b[j]? = r[j]? := fun j hj => by
    have := congrArg (fun l => l[j]?) ht
    simpa [List.getElem?_take, hj] using this
  unfold Xy
  rcases hw with rfl | rfl
  · rw [if_pos rfl, if_pos rfl, hq _ (by omega)]
  · rw [if_neg (by decide), if_neg (by decide), hq _ (by omega), hq _ (by omega)]
section
variable {l0 l1 l2 : Int} {h : HS} {imgs : Int}
/-- One byte within a row, not its last, and not a bad one's last. -/
theorem rw_mid {b : List Int} {k : Nat} {y e c : Int} (hn : k + 1 < b.length) (hg : ¬ (h.K ≠ 4 ∧ (k + 1) % Qi h.M = 0 ∧ Xy (Qi h.M) (b.set k c) ((k + 1) / Qi h.M - 1) > h.M)) : Xo h.K h.W.toNat h.H h.M ⟨b, k, y, 0, e⟩ c = (⟨b.set k c, k + 1, y, 0, e⟩, []) := by
  unfold Xo
  rw [if_neg (by simp), if_neg hg, if_pos (by simpa using hn)]
theorem rw_last {b : List Int} {k : Nat} {y e c : Int} (hn : ¬ k + 1 < b.length) (hg : ¬ (h.K ≠ 4 ∧ (k + 1) % Qi h.M = 0 ∧ Xy (Qi h.M) (b.set k c) ((k + 1) / Qi h.M - 1) > h.M)) : Xo h.K h.W.toNat h.H h.M ⟨b, k, y, 0, e⟩ c = (⟨b.set k c, 0, y + 1, if y + 1 = h.H then 1 else 0, e⟩, Yg h.K h.W.toNat (Qi h.M) (b.set k c)) := by
  unfold Xo
  rw [if_neg (by simp), if_neg hg, if_neg (by simpa using hn)]
theorem rw_bad {b : List Int} {k : Nat} {y e c : Int} (hg : h.K ≠ 4 ∧ (k + 1) % Qi h.M = 0 ∧ Xy (Qi h.M) (b.set k c) ((k + 1) / Qi h.M - 1) > h.M) : Xo h.K h.W.toNat h.H h.M ⟨b, k, y, 0, e⟩ c = (⟨b.set k c, k + 1, y, 2, 5⟩, []) := by
  unfold Xo
  rw [if_neg (by simp), if_pos hg]
/-- A row's bytes that are good: whole, or cut off. -/
theorem row_run {n : Nat} {r : List Int} {y t0 : Int} (hok : okUpto h.K h.M (Qi h.M) r n) (hW : 1 ≤ h.W.toNat) (hn : n = Qy h.K h.W.toNat (Qi h.M)) : ∀ (m k : Nat), m = n - k → k < n → ∀ (b : List Int), b.length = n → k ≤ r.length → b.take k = r.take k →
    (n ≤ r.length → y + 1 ≠ h.H → ∃ e', e' = (0 : Int) ∧ QF l0 l1 l2 ⟨some h, 2, .rw ⟨b, k, y, 0, 0⟩, t0 + k, imgs, false, 0⟩ (r.drop k) = XR [(⟨2, 0, 0, 0, 0, Yg h.K h.W.toNat (Qi h.M) (r.take n)⟩, t0 + n)] (QF l0 l1 l2 ⟨some h, 2, .rw ⟨r.take n, 0, y + 1, 0, e'⟩, t0 + n, imgs, false, 0⟩ (r.drop n))) ∧
    (n ≤ r.length → y + 1 = h.H → QF l0 l1 l2 ⟨some h, 2, .rw ⟨b, k, y, 0, 0⟩, t0 + k, imgs, false, 0⟩ (r.drop k) = XR [(⟨2, 0, 0, 0, 0, Yg h.K h.W.toNat (Qi h.M) (r.take n)⟩, t0 + n), Zn (t0 + n)] (QF l0 l1 l2 ⟨some h, 0, .no, t0 + n, imgs + 1, false, 0⟩ (r.drop n))) ∧
    (r.length < n → ∃ s, QF l0 l1 l2 ⟨some h, 2, .rw ⟨b, k, y, 0, 0⟩, t0 + k, imgs, false, 0⟩ (r.drop k) = (⟨some h, 2, .rw s, t0 + r.length, imgs, false, 0⟩, [])) := by
  have hw := Q7 h.M
  intro m
  induction m with
  | zero => intro k hm hk; omega
  | succ m ih =>
    intro k hm hk b hb hkr ht
    by_cases hke : k = r.length
    · refine ⟨fun q => by omega, fun q => by omega, fun _ => ⟨⟨b, k, y, 0, 0⟩, ?_⟩⟩
      rw [List.drop_of_length_le (by omega), hke]; rfl
    have hkl : k < r.length := by omega
    have hdr := List.drop_eq_getElem_cons hkl
    have hst := set_take hkl (by omega) ht
    have hg : ¬ (h.K ≠ 4 ∧ (k + 1) % Qi h.M = 0 ∧ Xy (Qi h.M) (b.set k r[k]) ((k + 1) / Qi h.M - 1) > h.M) := by
      rintro ⟨h1, h2, h3⟩
      have hx : ((k + 1) / Qi h.M - 1 + 1) * Qi h.M = k + 1 := by
        rcases hw with e | e <;> rw [e] at h2 ⊢ <;> omega
      rw [smp_take hw hst (by omega)] at h3
      have := hok h1 _ (by rw [hx]; omega) (by rw [hx]; omega)
      omega
    have hsl : (b.set k r[k]).length = n := by rw [List.length_set, hb]
    have hcast : t0 + ((k + 1 : Nat) : Int) = t0 + k + 1 := by push_cast; omega
    have hq := put_rw l0 l1 l2 (h := h) (r := ⟨b, k, y, 0, 0⟩) (told := t0 + k) (imgs := imgs) (c := r[k])
    by_cases hl : k + 1 < n
    · rw [rw_mid (by omega) hg] at hq
      have hr := (YK l0 l1 l2 (bs := r.drop (k + 1)) hq).1 rfl
      have hi := ih (k + 1) (by omega) hl (b.set k r[k]) hsl (by omega) hst
      rw [hcast] at hi
      rw [hdr, hr]
      have hre : atE (XB []) (t0 + k + 1) = [] := rfl
      rw [hre, papp_nil]
      exact hi
    · have hke2 : k + 1 = n := by omega
      rw [rw_last (by omega) hg] at hq
      have hall : b.set k r[k] = r.take n := by
        have h1 : (b.set k r[k]).take (k + 1) = b.set k r[k] := List.take_of_length_le (by omega)
        rw [← h1, hst, hke2]
      rw [hall] at hq
      have hrl : (Yg h.K h.W.toNat (Qi h.M) (r.take n)).length = h.W.toNat := YJ hw (by rw [List.length_take]; omega)
      have hre : XB (Yg h.K h.W.toNat (Qi h.M) (r.take n)) = [⟨2, 0, 0, 0, 0, Yg h.K h.W.toNat (Qi h.M) (r.take n)⟩] := if_neg (fun q => by rw [q] at hrl; simp at hrl; omega)
      have hr := YK l0 l1 l2 (bs := r.drop (k + 1)) hq
      have hcast2 : t0 + (n : Int) = t0 + k + 1 := by rw [← hke2]; exact hcast
      refine ⟨fun _ hy => ⟨0, rfl, ?_⟩, fun _ hy => ?_, fun q => by omega⟩
      · have hr1 := hr.1 (if_neg hy)
        rw [hdr, hr1, hre, hcast2, ← hke2, if_neg hy]; rfl
      · have hr1 := hr.2.1 (if_pos hy)
        rw [hdr, hr1, hre, hcast2, ← hke2]; rfl
/-- A row's bytes of which a sample is bad. -/
theorem row_bad {n i0 : Nat} {r : List Int} {y t0 : Int} (hK : h.K ≠ 4) (hbad : Xy (Qi h.M) r i0 > h.M) (hok : ∀ i, i < i0 → Xy (Qi h.M) r i ≤ h.M) (h1 : (i0 + 1) * Qi h.M ≤ n) (h2 : (i0 + 1) * Qi h.M ≤ r.length) : ∀ (m k : Nat), m = (i0 + 1) * Qi h.M - k → k < (i0 + 1) * Qi h.M → ∀ (b : List Int), b.length = n → b.take k = r.take k →
    ∃ s, QF l0 l1 l2 ⟨some h, 2, .rw ⟨b, k, y, 0, 0⟩, t0 + k, imgs, false, 0⟩ (r.drop k) = (⟨some h, 2, .rw s, t0 + ((i0 + 1) * Qi h.M : Nat), imgs, false, 5⟩, []) := by
  have hw := Q7 h.M
  intro m
  induction m with
  | zero => intro k hm hk; omega
  | succ m ih =>
    intro k hm hk b hb ht
    have hkl : k < r.length := by omega
    have hdr := List.drop_eq_getElem_cons hkl
    have hst := set_take hkl (by omega) ht
    have hcast : t0 + ((k + 1 : Nat) : Int) = t0 + k + 1 := by push_cast; omega
    have hq := put_rw l0 l1 l2 (h := h) (r := ⟨b, k, y, 0, 0⟩) (told := t0 + k) (imgs := imgs) (c := r[k])
    by_cases hl : k + 1 < (i0 + 1) * Qi h.M
    · have hg : ¬ (h.K ≠ 4 ∧ (k + 1) % Qi h.M = 0 ∧ Xy (Qi h.M) (b.set k r[k]) ((k + 1) / Qi h.M - 1) > h.M) := by
        rintro ⟨_, h4, h3⟩
        have hx : ((k + 1) / Qi h.M - 1 + 1) * Qi h.M = k + 1 ∧ (k + 1) / Qi h.M - 1 < i0 := by
          rcases hw with e | e <;> rw [e] at h4 hl ⊢ <;> omega
        rw [smp_take hw hst (by omega)] at h3
        have := hok _ hx.2
        omega
      rw [rw_mid (by omega) hg] at hq
      have hr := (YK l0 l1 l2 (bs := r.drop (k + 1)) hq).1 rfl
      have hi := ih (k + 1) (by omega) hl (b.set k r[k]) (by rw [List.length_set, hb]) hst
      rw [hcast] at hi
      rw [hdr, hr]
      exact hi
    · have hke2 : k + 1 = (i0 + 1) * Qi h.M := by omega
      have hg : h.K ≠ 4 ∧ (k + 1) % Qi h.M = 0 ∧ Xy (Qi h.M) (b.set k r[k]) ((k + 1) / Qi h.M - 1) > h.M := by
        have hx : (k + 1) % Qi h.M = 0 ∧ (k + 1) / Qi h.M - 1 = i0 := by
          rw [hke2]
          rcases hw with e | e <;> rw [e] <;> omega
        refine ⟨hK, hx.1, ?_⟩
        rw [hx.2, smp_take hw hst (by omega)]
        exact hbad
      rw [rw_bad hg] at hq
      have hr := (YK l0 l1 l2 (bs := r.drop (k + 1)) hq).2.2 rfl (by simp)
      refine ⟨⟨b.set k r[k], k + 1, y, 2, 5⟩, ?_⟩
      rw [hdr, hr, ← hke2, hcast]; rfl
end
theorem ZZ (w M : Int) : ∀ (S : List Int) (i : Int), (badI w M S i = 0 ∧ ∀ x ∈ S, x ≤ M) ∨ ∃ j, ∃ hj : j < S.length, S[j] > M ∧ (∀ j' (h : j' < j), S[j']'(by omega) ≤ M) ∧ badI w M S i = w * (i + j + 1)
  | [], i => .inl ⟨rfl, fun x hx => by simp at hx⟩
  | x :: S, i => by
    by_cases hx : x > M
    · exact .inr ⟨0, by simp, hx, fun j' h => by omega, by rw [badI, if_pos hx]; simp⟩
    · rcases ZZ w M S (i + 1) with ⟨h1, h2⟩ | ⟨j, hj, h1, h2, h3⟩
      · refine .inl ⟨by rw [badI, if_neg hx, h1], fun z hz => ?_⟩
        rcases List.mem_cons.1 hz with rfl | hz
        · omega
        · exact h2 z hz
      · refine .inr ⟨j + 1, by simpa using hj, by simpa using h1, fun j' h => ?_, by rw [badI, if_neg hx, h3]; congr 1; push_cast; omega⟩
        cases j' with
        | zero => simp only [List.getElem_cons_zero]; omega
        | succ j' => simpa using h2 j' (by omega)

theorem smpAt_drop {w : Nat} (hw : w = 1 ∨ w = 2) (R : List Int) (P i : Nat) : Xy w (R.drop (P * w)) i = Xy w R (P + i) := by
  unfold Xy
  rcases hw with rfl | rfl
  · rw [if_pos rfl, if_pos rfl, List.getElem?_drop, show P * 1 + i = P + i by omega]
  · rw [if_neg (by decide), if_neg (by decide), List.getElem?_drop, List.getElem?_drop, show P * 2 + 2 * i = 2 * (P + i) by omega, show P * 2 + (2 * i + 1) = 2 * (P + i) + 1 by omega]
theorem smps_at {w : Nat} (hw : w = 1 ∨ w = 2) (R : List Int) {j N : Nat} (h1 : (j + 1) * w ≤ N) (h2 : (j + 1) * w ≤ R.length) : ∃ hj : j < (Yl w (R.take N)).length, (Yl w (R.take N))[j] = Xy w R j := by
  have hl : (R.take N).length = min N R.length := List.length_take
  refine ⟨by rw [YL, hl]; rcases hw with rfl | rfl <;> omega, ?_⟩
  simp only [Yl, List.getElem_map, List.getElem_range]
  exact smp_take hw (k := N) (by rw [List.take_take, Nat.min_self]) h1
section
variable {K M : Int} {W H : Nat}
theorem strd_q (hK : K ≠ 4) : Qy K W (Qi M) = (W * (QT K).toNat) * Qi M := if_neg hK
/-- Where a row's samples are among all of a raster. -/
theorem row_pos {R : List Int} {y i : Nat} (hy : y < H) (hK : K ≠ 4) (h1 : (i + 1) * Qi M ≤ Qy K W (Qi M)) (h2 : y * Qy K W (Qi M) + (i + 1) * Qi M ≤ R.length) :
    ∃ P, y * Qy K W (Qi M) = P * Qi M ∧ ∃ hj : P + i < (Yl (Qi M) (R.take (Qy K W (Qi M) * H))).length, (Yl (Qi M) (R.take (Qy K W (Qi M) * H)))[P + i] = Xy (Qi M) (R.drop (y * Qy K W (Qi M))) i := by
  have hw := Q7 M
  have hn := strd_q (M := M) (W := W) hK
  have hP : y * Qy K W (Qi M) = (y * (W * (QT K).toNat)) * Qi M := by rw [hn]; exact (Nat.mul_assoc _ _ _).symm
  have hH : (y + 1) * Qy K W (Qi M) ≤ Qy K W (Qi M) * H := by rw [Nat.mul_comm]; exact Nat.mul_le_mul_left _ hy
  have hy1 : (y + 1) * Qy K W (Qi M) = y * Qy K W (Qi M) + Qy K W (Qi M) := by rw [Nat.add_mul, Nat.one_mul]
  refine ⟨_, hP, ?_⟩
  rw [hP, smpAt_drop hw]
  have hj : ((y * (W * (QT K).toNat)) + i + 1) * Qi M = (y * (W * (QT K).toNat)) * Qi M + (i + 1) * Qi M := by rw [← Nat.add_mul]; congr 1
  exact smps_at hw R (by rw [hj, ← hP]; omega) (by rw [hj, ← hP]; exact h2)
theorem badR_n4 {R : List Int} (hK : K ≠ 4) : YS K W H M R = badI ((Qi M : Nat) : Int) M (Yl (Qi M) (R.take (Qy K W (Qi M) * H))) 0 := if_neg hK
theorem row_ok {R : List Int} {y : Nat} (hy : y < H) (hb : ¬ (YS K W H M R > 0 ∧ YS K W H M R ≤ (((y + 1) * Qy K W (Qi M) : Nat) : Int))) : okUpto K M (Qi M) (R.drop (y * Qy K W (Qi M))) (Qy K W (Qi M)) := by
  intro hK i h1 h2
  have hw := Q7 M
  rw [List.length_drop] at h2
  have h2' : y * Qy K W (Qi M) + (i + 1) * Qi M ≤ R.length := by
    have : 1 ≤ (i + 1) * Qi M := Nat.mul_pos (by omega) (by omega)
    omega
  obtain ⟨P, hP, hj, he⟩ := row_pos (H := H) hy hK h1 h2'
  have hy1 : (y + 1) * Qy K W (Qi M) = y * Qy K W (Qi M) + Qy K W (Qi M) := by rw [Nat.add_mul, Nat.one_mul]
  rw [hy1, hP] at hb
  rw [← he]
  rw [badR_n4 hK] at hb
  rcases ZZ ((Qi M : Nat) : Int) M (Yl (Qi M) (R.take (Qy K W (Qi M) * H))) 0 with ⟨_, hall⟩ | ⟨j, hjl, hjb, hjo, hje⟩
  · exact hall _ (List.getElem_mem hj)
  · by_cases hlt : P + i < j
    · exact hjo _ hlt
    · exfalso
      apply hb
      rw [hje]
      rcases hw with e | e <;> rw [e] at h1 ⊢ <;> push_cast <;> omega
theorem row_isbad {R : List Int} {y : Nat} (_hy : y < H) (h0 : YS K W H M R > 0) (h1 : YS K W H M R ≤ (((y + 1) * Qy K W (Qi M) : Nat) : Int)) (h2 : ¬ YS K W H M R ≤ ((y * Qy K W (Qi M) : Nat) : Int)) :
    K ≠ 4 ∧ ∃ i0, Xy (Qi M) (R.drop (y * Qy K W (Qi M))) i0 > M ∧ (∀ i, i < i0 → Xy (Qi M) (R.drop (y * Qy K W (Qi M))) i ≤ M) ∧ (i0 + 1) * Qi M ≤ Qy K W (Qi M) ∧ (i0 + 1) * Qi M ≤ (R.drop (y * Qy K W (Qi M))).length ∧ YS K W H M R = ((y * Qy K W (Qi M) + (i0 + 1) * Qi M : Nat) : Int) := by
  have hK : K ≠ 4 := fun h => by unfold YS at h0; rw [if_pos h] at h0; omega
  refine ⟨hK, ?_⟩
  have hw := Q7 M
  have hn := strd_q (M := M) (W := W) hK
  have hP : y * Qy K W (Qi M) = (y * (W * (QT K).toNat)) * Qi M := by rw [hn]; exact (Nat.mul_assoc _ _ _).symm
  have hy1 : (y + 1) * Qy K W (Qi M) = y * Qy K W (Qi M) + Qy K W (Qi M) := by rw [Nat.add_mul, Nat.one_mul]
  rw [badR_n4 hK] at h0 h1 h2 ⊢
  rcases ZZ ((Qi M : Nat) : Int) M (Yl (Qi M) (R.take (Qy K W (Qi M) * H))) 0 with ⟨hz, _⟩ | ⟨j, hjl, hjb, hjo, hje⟩
  · omega
  rw [hje] at h0 h1 h2 ⊢
  have hjl2 := hjl
  rw [YL, List.length_take] at hjl2
  rw [hy1] at h1
  obtain ⟨P, hPd⟩ : ∃ P, P = y * (W * (QT K).toNat) := ⟨_, rfl⟩
  obtain ⟨q, hqd⟩ : ∃ q, q = W * (QT K).toNat := ⟨_, rfl⟩
  rw [← hPd] at hP
  rw [← hqd] at hn
  rw [hP] at h1 h2 ⊢
  have hPj : P ≤ j := by rcases hw with e | e <;> rw [e] at h2 <;> push_cast at h2 <;> omega
  have hi1 : (j - P + 1) * Qi M ≤ Qy K W (Qi M) := by
    rw [hn] at h1 ⊢
    have : j + 1 ≤ P + q := by
      rcases hw with e | e <;> rw [e] at h1 <;> push_cast at h1 <;> omega
    exact Nat.mul_le_mul_right _ (by omega)
  have hlen : P * Qi M + (j - P + 1) * Qi M ≤ R.length := by
    rw [← Nat.add_mul]
    have hx : P + (j - P + 1) = j + 1 := by omega
    rw [hx]
    rcases hw with e | e <;> rw [e] at hjl2 ⊢ <;> omega
  refine ⟨j - P, ?_, ?_, hi1, by rw [List.length_drop]; omega, ?_⟩
  · rw [smpAt_drop hw, show P + (j - P) = j by omega]
    have hN : (j + 1) * Qi M ≤ Qy K W (Qi M) * H := by rcases hw with e | e <;> rw [e] at hjl2 ⊢ <;> omega
    have hR : (j + 1) * Qi M ≤ R.length := by rcases hw with e | e <;> rw [e] at hjl2 ⊢ <;> omega
    obtain ⟨_, he⟩ := smps_at hw R hN hR
    rw [← he]; exact hjb
  · intro i hi
    rw [smpAt_drop hw]
    have hN : (P + i + 1) * Qi M ≤ Qy K W (Qi M) * H := by rcases hw with e | e <;> rw [e] at hjl2 ⊢ <;> omega
    have hR : (P + i + 1) * Qi M ≤ R.length := by rcases hw with e | e <;> rw [e] at hjl2 ⊢ <;> omega
    obtain ⟨_, he⟩ := smps_at hw R hN hR
    rw [← he]; exact hjo _ (by omega)
  · rw [← Nat.add_mul, show P + (j - P + 1) = j + 1 by omega]; push_cast; rw [Int.zero_add, Int.mul_comm]
end
/-- How a raw raster stands in the reference: so Zc rows, the events. -/
def rwI (l0 l1 l2 : Int) (h : HS) (bs : List Int) (at0 : Nat) (imgs : Int) (y : Nat) (out : List (Evt × Int)) : Prop :=
  ((y : Int) < h.H → ∃ b, b.length = Qy h.K h.W.toNat (Qi h.M) ∧ QF l0 l1 l2 ⟨some h, 2, .rw (rw0 h), at0, imgs, false, 0⟩ (bs.drop at0) = XR out (QF l0 l1 l2 ⟨some h, 2, .rw ⟨b, 0, y, 0, 0⟩, ((at0 + y * Qy h.K h.W.toNat (Qi h.M) : Nat) : Int), imgs, false, 0⟩ (bs.drop (at0 + y * Qy h.K h.W.toNat (Qi h.M))))) ∧
  ((y : Int) = h.H → QF l0 l1 l2 ⟨some h, 2, .rw (rw0 h), at0, imgs, false, 0⟩ (bs.drop at0) = XR (out ++ [Zn ((at0 + y * Qy h.K h.W.toNat (Qi h.M) : Nat) : Int)]) (QF l0 l1 l2 ⟨some h, 0, .no, ((at0 + y * Qy h.K h.W.toNat (Qi h.M) : Nat) : Int), imgs + 1, false, 0⟩ (bs.drop (at0 + y * Qy h.K h.W.toNat (Qi h.M)))))
section
variable {l0 l1 l2 : Int} {h : HS} {bs : List Int} {at0 : Nat} {imgs : Int} {y : Nat} {out : List (Evt × Int)} {fin : Bool}
theorem rwI0 (hH : 1 ≤ h.H) : rwI l0 l1 l2 h bs at0 imgs 0 [] := by
  refine ⟨fun _ => ⟨List.replicate (Qy h.K h.W.toNat (Qi h.M)) 0, by simp, ?_⟩, fun q => by omega⟩
  rw [papp_nil, Nat.zero_mul, Nat.add_zero]; rfl
theorem rw_bad' (_hf : Yo h) (hI : rwI l0 l1 l2 h bs at0 imgs y out) (hy : (y : Int) < h.H) (h0 : YS h.K h.W.toNat h.H.toNat h.M (bs.drop at0) > 0) (h1 : YS h.K h.W.toNat h.H.toNat h.M (bs.drop at0) ≤ (((y + 1) * Qy h.K h.W.toNat (Qi h.M) : Nat) : Int)) (h2 : ¬ YS h.K h.W.toNat h.H.toNat h.M (bs.drop at0) ≤ ((y * Qy h.K h.W.toNat (Qi h.M) : Nat) : Int)) :
    Y4 l0 l1 l2 fin h (.rw (rw0 h)) bs at0 imgs out (at0 + YS h.K h.W.toNat h.H.toNat h.M (bs.drop at0)) 5 := by
  obtain ⟨b, hb, hr⟩ := hI.1 hy
  obtain ⟨hK, i0, g1, g2, g3, g4, g5⟩ := row_isbad (H := h.H.toNat) (y := y) (by omega) h0 h1 h2
  rw [List.drop_drop] at g1 g2 g4
  have hpos : 0 < (i0 + 1) * Qi h.M := Nat.mul_pos (by omega) (by have := Q7 h.M; omega)
  obtain ⟨s, hs⟩ := row_bad (l0 := l0) (l1 := l1) (l2 := l2) (imgs := imgs) (y := y) (t0 := ((at0 + y * Qy h.K h.W.toNat (Qi h.M) : Nat) : Int)) hK g1 g2 g3 g4 _ 0 rfl hpos b hb (by simp)
  rw [List.drop_zero, Int.natCast_zero, Int.add_zero] at hs
  refine ⟨fun q => absurd q (by decide), fun _ => ⟨⟨some h, 2, .rw s, ((at0 + y * Qy h.K h.W.toNat (Qi h.M) : Nat) : Int) + (((i0 + 1) * Qi h.M : Nat) : Int), imgs, false, 5⟩, ?_, rfl, ?_, rfl⟩⟩
  · rw [Int.toNat_natCast, hr, hs]
    simp only [XR, List.append_nil]
    exact psFin_dead (.inr (by simp))
  · simp only; rw [g5]; push_cast; omega
theorem rw_row (hf : Yo h) (hI : rwI l0 l1 l2 h bs at0 imgs y out) (hy : (y : Int) < h.H) (hb0 : ¬ (YS h.K h.W.toNat h.H.toNat h.M (bs.drop at0) > 0 ∧ YS h.K h.W.toNat h.H.toNat h.M (bs.drop at0) ≤ (((y + 1) * Qy h.K h.W.toNat (Qi h.M) : Nat) : Int))) (hl : at0 + (y + 1) * Qy h.K h.W.toNat (Qi h.M) ≤ bs.length) :
    rwI l0 l1 l2 h bs at0 imgs (y + 1) (out ++ [(⟨2, 0, 0, 0, 0, Yg h.K h.W.toNat (Qi h.M) ((bs.drop (at0 + y * Qy h.K h.W.toNat (Qi h.M))).take (Qy h.K h.W.toNat (Qi h.M)))⟩, ((at0 + (y + 1) * Qy h.K h.W.toNat (Qi h.M) : Nat) : Int))]) := by
  obtain ⟨b, hb, hr⟩ := hI.1 hy
  have hM := hf.2.2
  unfold XN at hM
  have hsb := X1 (K := h.K) (W := h.W.toNat) (Q7 h.M) (by omega) (by omega)
  have hok := row_ok (H := h.H.toNat) (y := y) (by omega) hb0
  rw [List.drop_drop] at hok
  have hy1 : (y + 1) * Qy h.K h.W.toNat (Qi h.M) = y * Qy h.K h.W.toNat (Qi h.M) + Qy h.K h.W.toNat (Qi h.M) := by rw [Nat.add_mul, Nat.one_mul]
  have hrun := row_run (l0 := l0) (l1 := l1) (l2 := l2) (imgs := imgs) (y := y) (t0 := ((at0 + y * Qy h.K h.W.toNat (Qi h.M) : Nat) : Int)) hok (by omega) rfl _ 0 rfl (by omega) b hb (Nat.zero_le _) (by simp)
  rw [List.drop_zero, Int.natCast_zero, Int.add_zero, List.drop_drop] at hrun
  have hcast : ((at0 + y * Qy h.K h.W.toNat (Qi h.M) : Nat) : Int) + ((Qy h.K h.W.toNat (Qi h.M) : Nat) : Int) = ((at0 + (y + 1) * Qy h.K h.W.toNat (Qi h.M) : Nat) : Int) := by rw [hy1]; push_cast; omega
  have hdr : at0 + y * Qy h.K h.W.toNat (Qi h.M) + Qy h.K h.W.toNat (Qi h.M) = at0 + (y + 1) * Qy h.K h.W.toNat (Qi h.M) := by rw [hy1]; omega
  rw [hcast, hdr] at hrun
  have hlen : Qy h.K h.W.toNat (Qi h.M) ≤ (bs.drop (at0 + y * Qy h.K h.W.toNat (Qi h.M))).length := by rw [List.length_drop]; omega
  refine ⟨fun q => ?_, fun q => ?_⟩
  · obtain ⟨e', he', hx⟩ := hrun.1 hlen (by push_cast at q; omega)
    subst he'
    refine ⟨_, ?_, by rw [hr, hx, Ys]; rfl⟩
    rw [List.length_take]; omega
  · have hx := hrun.2.1 hlen (by push_cast at q; omega)
    rw [hr, hx, Ys, List.append_assoc]; rfl
theorem rw_short (hf : Yo h) (hI : rwI l0 l1 l2 h bs at0 imgs y out) (hy : (y : Int) < h.H) (hat : at0 + y * Qy h.K h.W.toNat (Qi h.M) ≤ bs.length) (hb0 : ¬ (YS h.K h.W.toNat h.H.toNat h.M (bs.drop at0) > 0 ∧ YS h.K h.W.toNat h.H.toNat h.M (bs.drop at0) ≤ (((y + 1) * Qy h.K h.W.toNat (Qi h.M) : Nat) : Int))) (hl : ¬ at0 + (y + 1) * Qy h.K h.W.toNat (Qi h.M) ≤ bs.length) :
    Y4 l0 l1 l2 fin h (.rw (rw0 h)) bs at0 imgs out bs.length (if fin = true then 6 else 9) := by
  obtain ⟨b, hb, hr⟩ := hI.1 hy
  have hM := hf.2.2
  unfold XN at hM
  have hsb := X1 (K := h.K) (W := h.W.toNat) (Q7 h.M) (by omega) (by omega)
  have hok := row_ok (H := h.H.toNat) (y := y) (by omega) hb0
  rw [List.drop_drop] at hok
  have hy1 : (y + 1) * Qy h.K h.W.toNat (Qi h.M) = y * Qy h.K h.W.toNat (Qi h.M) + Qy h.K h.W.toNat (Qi h.M) := by rw [Nat.add_mul, Nat.one_mul]
  have hrun := row_run (l0 := l0) (l1 := l1) (l2 := l2) (imgs := imgs) (y := y) (t0 := ((at0 + y * Qy h.K h.W.toNat (Qi h.M) : Nat) : Int)) hok (by omega) rfl _ 0 rfl (by omega) b hb (Nat.zero_le _) (by simp)
  rw [List.drop_zero, Int.natCast_zero, Int.add_zero] at hrun
  obtain ⟨s, hx⟩ := hrun.2.2 (by rw [List.length_drop]; omega)
  have hcast : ((at0 + y * Qy h.K h.W.toNat (Qi h.M) : Nat) : Int) + (((bs.drop (at0 + y * Qy h.K h.W.toNat (Qi h.M))).length : Nat) : Int) = ((bs.length : Nat) : Int) := by rw [List.length_drop]; omega
  rw [hcast] at hx
  refine ⟨fun q => by cases fin <;> simp at q, fun _ => ?_⟩
  rw [Int.toNat_natCast, hr, hx]
  cases fin with
  | false => exact ⟨⟨some h, 2, .rw s, bs.length, imgs, false, 0⟩, by simp [YT, XR], by simp, rfl, rfl⟩
  | true => exact ⟨⟨some h, 2, .rw s, bs.length, imgs, true, 6⟩, by simp [YT, XR, Zo], by simp, rfl, rfl⟩
theorem rw_done (hI : rwI l0 l1 l2 h bs at0 imgs y out) (hy : (y : Int) = h.H) : Y4 l0 l1 l2 fin h (.rw (rw0 h)) bs at0 imgs (out ++ [Zn ((at0 + y * Qy h.K h.W.toNat (Qi h.M) : Nat) : Int)]) ((at0 + y * Qy h.K h.W.toNat (Qi h.M) : Nat) : Int) 0 := by
  refine ⟨fun _ => ?_, fun q => absurd rfl q⟩
  rw [Int.toNat_natCast, Int.toNat_natCast, hI.2 hy, YG]
end

end Go.Proofs.YtggamdlpiejbiaaGreat
namespace Go.Proofs.YtggamdlpiejbiaaGreat
open Go.RowKit Go.Shelf


def eaC (x : Evt × Int) (a : Option Addr) (c : Nat) : List Value := [.int .i64 x.1.k, .int .i64 x.1.c, .int .i64 x.1.m, .int .i64 x.1.w, .int .i64 x.1.h, .slice a x.1.row.length c, .int .i64 x.2]
def Zk (x : Evt × Int) : List Int := x.1.row
def esR (a : Option Addr) (c : Nat) (es : List (Evt × Int)) : HP := rcR 53 7 92 eaC Zk a c es
theorem rRow_spec (A0 : HP) (a0 : Option Addr) (c0 : Nat) (bs : List Int) (hA : RdsL [A0] a0 (XY bs)) (hbs : ∀ x ∈ bs, 0 ≤ x ∧ x ≤ 255) (hc0 : bs.length ≤ c0) (hbl : bs.length ≤ 100000000000) (K : Int) (W H : Nat) (M : Int) (hR : RawH K (W : Int) (H : Int) M) (hst : bs.length = Qy K W (Qi M)) : Fn Tryz.prog 110 #[.slice a0 bs.length c0, .agg #[.int .i64 K, .int .i64 (W : Int), .int .i64 (H : Int), .int .i64 M]] [A0] (fun v l => ∃ rr a c, rr = (Yg K W (Qi M) bs) ∧ v = .slice a rr.length c ∧ l = [own 92 1 a c rr.length (XG rr), A0]) := by
  have hl := YJ (K := K) (W := W) (Q7 M) hst
  have key : Fn Tryz.prog 110 #[.slice a0 bs.length c0, .agg #[.int .i64 K, .int .i64 (W : Int), .int .i64 (H : Int), .int .i64 M]] [A0] (fun v l => ∃ a c, v = .slice a W c ∧ l = [own 92 1 a c W (XG (Yg K W (Qi M) bs)), A0]) := by
    by_cases h4 : K = 4
    · exact rRow_a A0 a0 c0 bs hA hbs hc0 hbl K W H M hR hst h4
    · exact rRow_b A0 a0 c0 bs hA hbs hc0 hbl K W H M hR hst h4
  refine key.mono ?_
  rintro v l ⟨a, c, rfl, rfl⟩
  exact ⟨_, ⟨_, a, c, rfl, by rw [hl], by rw [hl]⟩, Ent.refl _⟩
theorem u8s_from (bs : List Int) (L : Nat) : ((XY bs).drop (L * 1)).take ((bs.length - L) * 1) = XY (bs.drop L) := by
  rw [Nat.mul_one, Nat.mul_one, List.take_of_length_le (by simp [XY])]
  simp [XY, List.map_drop]
theorem u8s_sub (bs : List Int) (L H : Nat) : ((XY bs).drop (L * 1)).take ((H - L) * 1) = XY ((bs.drop L).take (H - L)) := by
  simp [XY, List.map_take, List.map_drop]
def evRw (x : Evt × Int) : Prop := x.1.k = 2 ∧ x.1.row.length ≤ 4096
theorem sampleS_row (ch : Int) (one row : List Int) (x : Int) : (Xz ch one row x).2.length ≤ row.length + 1 := by
  unfold Xz
  split
  · simp
  · simp
theorem endsR_row (ch : Int) (s : RS) : (Yq ch s).row.length ≤ s.row.length + 1 := by
  unfold Yq
  split
  · omega
  · exact sampleS_row _ _ _ _
theorem stepR_row (K M : Int) (s : RS) (c : Int) : (XV K M s c).1.row.length ≤ s.row.length + 1 := by
  unfold XV Z0 ZB
  repeat' split
  all_goals first | exact endsR_row _ _ | exact sampleS_row _ _ _ _ | (simp only; omega)
theorem fullR_w {W H : Int} {s : RS} {n : Nat} (h : s.row.length ≤ n) : (Xt W H s).2.length ≤ n := by
  unfold Xt
  split
  · exact Nat.zero_le _
  · exact h
theorem putR_w {K W H M c : Int} {s : RS} (h : (s.row.length : Int) < W) (hW : W ≤ 4096) : (Xw K W H M s c).2.length ≤ 4096 := by
  have := stepR_row K M s c
  unfold Xw
  split
  · exact Nat.zero_le _
  · split
    · exact Nat.zero_le _
    · exact fullR_w (by omega)
theorem endR_w {K W H : Int} {s : RS} (h : (s.row.length : Int) < W) (hW : W ≤ 4096) : (Yd K W H s).2.length ≤ 4096 := by
  have := endsR_row (QT K) s
  unfold Yd
  split
  · exact Nat.zero_le _
  · split
    · exact fullR_w (by omega)
    · exact fullR_w (by omega)
structure RpX where
  (at_ : Nat) (n : Int) (one row : List Int) (rows last e : Int) (a1 : Option Addr) (c1 : Nat) (a2 : Option Addr) (c2 : Nat) (out : List (Evt × Int)) (aO : Option Addr) (cO : Nat)
def rsO (h : HS) (k : Nat) (r : RS) : Prop := RInv (QT h.K) k 0 r ∧ RGood h.K h.W r ∧ (r.last = 0 ∨ r.last = 1 ∨ (r.last = 2 ∧ r.e ≠ 0 ∧ r.e ≠ 9))
theorem rsO_put {h : HS} {k : Nat} {r r' : RS} {c : Int} {row : List Int} (hM : XN h.K h.W h.H h.M) (hr : rsO h k r) (hl : r.last = 0) (hp : (r', row) = Xw h.K h.W h.H h.M r c) : rsO h (k + 1) r' := by
  obtain ⟨h1, h2, _⟩ := hr
  have g1 := (putR_inv (W := h.W) (H := h.H) (M := h.M) (c := c) h1).zero
  have g2 := putR_good (H := h.H) (M := h.M) (c := c) (by have := hM.2.1; omega) h2
  have g3 := putR_last (K := h.K) (W := h.W) (H := h.H) (M := h.M) (c := c) hl
  have g4 := fun q => putR_e (K := h.K) (W := h.W) (H := h.H) (M := h.M) (c := c) (s := r) q hl
  have g5 := fun q => putR_e9 (K := h.K) (W := h.W) (H := h.H) (M := h.M) (c := c) (s := r) hl q
  rw [← hp] at g1 g2 g3 g4 g5
  refine ⟨g1, g2, ?_⟩
  rcases g3 with g | g | g
  · exact .inl g
  · exact .inr (.inl g)
  · exact .inr (.inr ⟨g, g4 g, g5 g⟩)
theorem atE_some {row : List Int} {n : Int} (h : row ≠ []) : atE (XB row) n = [(⟨2, 0, 0, 0, 0, row⟩, n)] := by unfold XB; rw [if_neg h]; rfl
theorem atE_none {row : List Int} {n : Int} (h : row = []) : atE (XB row) n = [] := by unfold XB; rw [if_pos h]; rfl

end Go.Proofs.YtggamdlpiejbiaaGreat
