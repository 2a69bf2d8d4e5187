/- Walks and plain laws, a part of the proof of PnmTwice: every input that the law's guards let in, no condition beside. -/
import Derived.ArgAppend
import Derived.Test.YtggamdlpiejbiaaGreatM28
namespace Go.Proofs.YtggamdlpiejbiaaGreat
open Go.RowKit Go.Shelf

theorem tk_dig {most n : Int} {ph : Int} {d : Nat} (hph : ph = 0 ∨ ph = 2) (hd : d < 10) (hm : n * 10 + d ≤ most) (hn : 0 ≤ n) : QC most ⟨ph, n, 9⟩ (48 + (d : Int)) = (⟨2, n * 10 + d, 9⟩, 0) := by
  have hst : Xh n (48 + (d : Int)) most = (n * 10 + d, 0) := by
    unfold Xh
    rw [if_neg (by omega), if_neg (by omega)]
    exact Prod.ext (by simp only; omega) rfl
  have hb : Q8 (48 + (d : Int)) = false := decide_eq_false (by omega)
  unfold QC
  rw [if_neg (by simp only; omega), if_neg (by simp only; omega), if_neg (by simp only; omega), if_neg (by simp only; omega), if_neg (by omega), if_neg (by rw [hb]; decide)]
  simp only [hst]
  rw [if_neg (by simp)]
theorem hd_dig {l0 l1 l2 K W H M i n : Int} {ph : Int} {d : Nat} (hph : ph = 0 ∨ ph = 2) (hd : d < 10) (hn : 0 ≤ n) (hm : n * 10 + d ≤ Q0 l0 l1 l2 i) (bs : List Int) (k : Int) : Q9 l0 l1 l2 ⟨K, W, H, M, 3, i, ⟨ph, n, 9⟩, 0, 9⟩ ((48 + (d : Int)) :: bs) k = Q9 l0 l1 l2 ⟨K, W, H, M, 3, i, ⟨2, n * 10 + d, 9⟩, 0, 9⟩ bs (k + 1) := by
  have e : QU l0 l1 l2 ⟨K, W, H, M, 3, i, ⟨ph, n, 9⟩, 0, 9⟩ (48 + (d : Int)) = ⟨K, W, H, M, 3, i, ⟨2, n * 10 + d, 9⟩, 0, 9⟩ := by
    unfold QU
    rw [if_neg (by simp), if_neg (by simp)]
    unfold XF
    simp only [tk_dig hph hd hm hn]
    rfl
  rw [Zw _ _ _ (by rw [e]), e]
theorem hd_digs {l0 l1 l2 K W H M i : Int} : ∀ (n : Nat), (n : Int) ≤ Q0 l0 l1 l2 i → ∀ (bs : List Int) (k : Int), Q9 l0 l1 l2 ⟨K, W, H, M, 3, i, X8, 0, 9⟩ (X0 n ++ bs) k = Q9 l0 l1 l2 ⟨K, W, H, M, 3, i, ⟨2, n, 9⟩, 0, 9⟩ bs (k + (X0 n).length) := by
  intro n
  induction n using Nat.strongRecOn with
  | _ n ih =>
    intro hm bs k
    rw [X0]
    by_cases h : n < 10
    · rw [if_pos h]
      have := hd_dig (l0 := l0) (l1 := l1) (l2 := l2) (K := K) (W := W) (H := H) (M := M) (i := i) (n := 0) (ph := 0) (.inl rfl) h (by omega) (by omega) bs k
      rw [show (0 * 10 + (n : Int)) = n by omega] at this
      exact this
    · rw [if_neg h, List.append_assoc, ih (n / 10) (by omega) (by omega)]
      have := hd_dig (l0 := l0) (l1 := l1) (l2 := l2) (K := K) (W := W) (H := H) (M := M) (i := i) (n := ((n / 10 : Nat) : Int)) (ph := 2) (d := n % 10) (.inr rfl) (by omega) (by omega) (by omega) bs (k + (X0 (n / 10)).length)
      rw [show (((n / 10 : Nat) : Int) * 10 + ((n % 10 : Nat) : Int)) = n by omega] at this
      rw [List.length_append]
      refine this.trans ?_
      congr 1
      simp only [List.length_cons, List.length_nil]
      push_cast
      omega
/-- A number's last digit, and the blank behind it. -/
theorem hd_end {l0 l1 l2 K W H M i c : Int} {n : Int} (hn : 1 ≤ n) (hc : Q8 c = true) : QU l0 l1 l2 ⟨K, W, H, M, 3, i, ⟨2, n, 9⟩, 0, 9⟩ c = (if (XI (Ya ⟨K, W, H, M, 3, i, ⟨2, n, 9⟩, 0, 9⟩ n)).i < 3 then { XI (Ya ⟨K, W, H, M, 3, i, ⟨2, n, 9⟩, 0, 9⟩ n) with t := X8, last := 0 } else { XI (Ya ⟨K, W, H, M, 3, i, ⟨2, n, 9⟩, 0, 9⟩ n) with t := ⟨4, n, 0⟩, last := 1, e := 0 }) := by
  have h35 : c ≠ 35 := fun e => by subst e; simp [Q8] at hc
  have ht : QC (Q0 l0 l1 l2 i) ⟨2, n, 9⟩ c = (⟨4, n, 0⟩, 1) := by
    unfold QC
    rw [if_neg (by simp), if_neg (by simp), if_neg (by simp), if_neg (by simp), if_neg h35, if_pos hc, if_neg (by simp)]
  unfold QU
  rw [if_neg (by simp), if_neg (by simp)]
  unfold XF
  simp only [ht]
  rw [if_neg (by decide), if_neg (by decide), if_neg (by omega)]
/-- A head that is done. -/
def hdZ (K W H M : Int) (i : Int) (t : TS) : HS := ⟨K, W, H, M, 3, i, t, 1, 0⟩
theorem hd_back {l0 l1 l2 K W H M : Int} (_hL : LimO l0 l1 l2) (hM : XN K W H M) (h0 : W ≤ l0) (h1 : H ≤ l1) (h2 : M ≤ l2) (bs : List Int) : ∃ t, Q9 l0 l1 l2 hd0 (hdW K W H M ++ bs) 0 = (hdZ K W H M 3 t, ((hdW K W H M).length : Int)) := by
  unfold XN at hM
  have hd1 : X0 K.toNat = [48 + K] := by rw [X0, if_pos (by omega)]; congr 1; omega
  have hb32 : Q8 32 = true := rfl
  have hb10 : Q8 10 = true := rfl
  have e1 : QU l0 l1 l2 hd0 80 = ⟨0, 0, 0, 0, 1, 0, X8, 0, 9⟩ := by simp [QU, Xp, hd0]
  have e2 : QU l0 l1 l2 ⟨0, 0, 0, 0, 1, 0, X8, 0, 9⟩ (48 + K) = ⟨K, 0, 0, 0, 2, 0, X8, 0, 9⟩ := by
    unfold QU Xp
    rw [if_neg (by simp), if_pos (by simp), if_neg (by simp; omega), if_pos (by simp)]
    show (⟨48 + K - 48, 0, 0, 0, 2, 0, X8, 0, 9⟩ : HS) = _
    rw [show (48 + K - 48 : Int) = K by omega]
  have e3 : QU l0 l1 l2 ⟨K, 0, 0, 0, 2, 0, X8, 0, 9⟩ 10 = ⟨K, 0, 0, 0, 3, 0, X8, 0, 9⟩ := by
    unfold QU Xp
    rw [if_neg (by simp), if_pos (by simp), if_neg (by simp), if_neg (by simp), if_pos (by simp), if_neg (by simp [hb10])]
    have ht : (QC l0 X8 10).1 = X8 := by
      unfold QC X8
      rw [if_neg (by simp), if_neg (by simp), if_neg (by simp), if_neg (by simp), if_neg (by decide), if_pos hb10, if_pos (by simp)]
    rw [ht]
    rfl
  have hWt : ((W.toNat : Nat) : Int) = W := by omega
  have hHt : ((H.toNat : Nat) : Int) = H := by omega
  have hMt : ((M.toNat : Nat) : Int) = M := by omega
  have e4 : QU l0 l1 l2 ⟨K, 0, 0, 0, 3, 0, ⟨2, W, 9⟩, 0, 9⟩ 32 = ⟨K, W, 0, 0, 3, 1, X8, 0, 9⟩ := by
    rw [hd_end (by omega) hb32]
    simp [Ya, XI]
  have e5 : ∀ (hb : XZ K), QU l0 l1 l2 ⟨K, W, 0, 0, 3, 1, ⟨2, H, 9⟩, 0, 9⟩ 10 = ⟨K, W, H, 1, 3, 3, ⟨4, H, 0⟩, 1, 0⟩ := fun hb => by
    rw [hd_end (by omega) hb10]
    simp [Ya, XI, hb]
  have e6 : ∀ (hb : ¬ XZ K), QU l0 l1 l2 ⟨K, W, 0, 0, 3, 1, ⟨2, H, 9⟩, 0, 9⟩ 10 = ⟨K, W, H, 0, 3, 2, X8, 0, 9⟩ := fun hb => by
    rw [hd_end (by omega) hb10]
    simp [Ya, XI, hb]
  have e7 : QU l0 l1 l2 ⟨K, W, H, 0, 3, 2, ⟨2, M, 9⟩, 0, 9⟩ 10 = ⟨K, W, H, M, 3, 3, ⟨4, M, 0⟩, 1, 0⟩ := by
    rw [hd_end (by omega) hb10]
    simp [Ya, XI]
  have hl0 : Q0 l0 l1 l2 0 = l0 := rfl
  have hl1 : Q0 l0 l1 l2 1 = l1 := rfl
  have hl2 : Q0 l0 l1 l2 2 = l2 := rfl
  have hw := hd_digs (l0 := l0) (l1 := l1) (l2 := l2) (K := K) (W := 0) (H := 0) (M := 0) (i := 0) W.toNat (by rw [hl0]; omega)
  have hh := hd_digs (l0 := l0) (l1 := l1) (l2 := l2) (K := K) (W := W) (H := 0) (M := 0) (i := 1) H.toNat (by rw [hl1]; omega)
  have hm := hd_digs (l0 := l0) (l1 := l1) (l2 := l2) (K := K) (W := W) (H := H) (M := 0) (i := 2) M.toNat (by rw [hl2]; omega)
  rw [hWt] at hw
  rw [hHt] at hh
  rw [hMt] at hm
  unfold hdW
  rw [hd1]
  simp only [List.append_assoc, List.cons_append, List.nil_append]
  rw [Zw _ _ _ (by rw [e1]), e1, Zw _ _ _ (by rw [e2]), e2, Zw _ _ _ (by rw [e3]), e3, hw, Zw _ _ _ (by rw [e4]), e4, hh]
  by_cases hb : XZ K
  · rw [hdRun_fin _ _ _ (by rw [e5 hb]; exact fun q => absurd (show (1 : Int) = 0 from q) (by decide)), e5 hb]
    have hM1 : M = 1 := hM.2.2.2.2 hb
    subst hM1
    refine ⟨⟨4, H, 0⟩, Prod.ext rfl ?_⟩
    rw [if_pos (show K = 1 ∨ K = 4 from hb)]
    simp only [List.length_append, List.length_cons, List.length_nil]
    push_cast
    omega
  · rw [Zw _ _ _ (by rw [e6 hb]), e6 hb, if_neg (show ¬ (K = 1 ∨ K = 4) from hb)]
    simp only [List.append_assoc, List.cons_append, List.nil_append]
    rw [hm, hdRun_fin _ _ _ (by rw [e7]; exact fun q => absurd (show (1 : Int) = 0 from q) (by decide)), e7]
    refine ⟨⟨4, M, 0⟩, Prod.ext rfl ?_⟩
    simp only [List.length_append, List.length_cons, List.length_nil]
    push_cast
    omega
theorem hdP_back {l0 l1 l2 K W H M : Int} (hL : LimO l0 l1 l2) (hM : XN K W H M) (h0 : W ≤ l0) (h1 : H ≤ l1) (h2 : M ≤ l2) (bs : List Int) : hdP l0 l1 l2 (hdW K W H M ++ bs) = ((K, W, H, M), ((hdW K W H M).length : Int), 0) := by
  obtain ⟨t, e⟩ := hd_back hL hM h0 h1 h2 bs
  rw [Zs, e]
  rfl
end Go.Proofs.YtggamdlpiejbiaaGreat
namespace Go.Proofs.YtggamdlpiejbiaaGreat
open Go.RowKit Go.Shelf


theorem lims_all : QG 4096 = 4096 ∧ QH 65536 = 65536 ∧ QI 65535 = 65535 := by decide
end Go.Proofs.YtggamdlpiejbiaaGreat
namespace Go.Proofs.YtggamdlpiejbiaaGreat
open Go.RowKit Go.Shelf


def shP (d j : Int) (s : PS) : PS := { s with told := s.told + d, imgs := s.imgs + j }
def shE (d : Int) (es : List (Evt × Int)) : List (Evt × Int) := es.map fun x => (x.1, x.2 + d)
theorem shE_app (d : Int) (a b : List (Evt × Int)) : shE d (a ++ b) = shE d a ++ shE d b := List.map_append
theorem shE_fst (d : Int) (a : List (Evt × Int)) : (shE d a).map (·.1) = a.map (·.1) := by unfold shE; rw [List.map_map]; rfl
theorem sh_evts (d j : Int) (s : PS) (bd : Bd) (st e : Int) (row : List Int) : Xx (shP d j s) bd st e row = (shP d j (Xx s bd st e row).1, (Xx s bd st e row).2) := by
  unfold Xx shP
  refine Prod.ext ?_ rfl
  dsimp only
  repeat' split
  all_goals first | rfl | (simp only [PS.mk.injEq, true_and, and_true]; omega)
theorem sh_heads (d j : Int) (s : PS) (h : HS) : Xr (shP d j s) h = (shP d j (Xr s h).1, (Xr s h).2) := by
  unfold Xr shP
  repeat' split
  all_goals rfl
theorem sh_step (l0 l1 l2 d j : Int) (s : PS) (c : Int) : XS l0 l1 l2 (shP d j s) c = (shP d j (XS l0 l1 l2 s c).1, (XS l0 l1 l2 s c).2) := by
  unfold XS
  rw [show (shP d j s).ph = s.ph from rfl, show (shP d j s).hd = s.hd from rfl]
  by_cases h0 : s.ph = 0
  · rw [if_pos h0, if_pos h0]
    by_cases hb : Q8 c = true
    · rw [if_pos hb, if_pos hb]
    · rw [if_neg hb, if_neg hb, sh_heads]
  · rw [if_neg h0, if_neg h0]
    by_cases h1 : s.ph = 1
    · rw [if_pos h1, if_pos h1, sh_heads]
    · rw [if_neg h1, if_neg h1]
      unfold psBody
      rw [show (shP d j s).bd = s.bd from rfl]
      cases s.bd with
      | no => rfl
      | pl r => exact sh_evts d j s _ _ _ _
      | rw r => exact sh_evts d j s _ _ _ _
theorem sh_put (l0 l1 l2 d j : Int) (s : PS) (c : Int) : Xq l0 l1 l2 (shP d j s) c = (shP d j (Xq l0 l1 l2 s c).1, (Xq l0 l1 l2 s c).2) := by
  unfold Xq
  rw [show (shP d j s).over = s.over from rfl, show (shP d j s).e = s.e from rfl]
  by_cases h : s.over = true ∨ s.e ≠ 0
  · rw [if_pos h, if_pos h]
  · have e : ({ shP d j s with told := (shP d j s).told + 1 } : PS) = shP d j { s with told := s.told + 1 } := by unfold shP; simp only [PS.mk.injEq, true_and, and_true]; omega
    rw [if_neg h, if_neg h]
    exact (congrArg (fun z => XS l0 l1 l2 z c) e).trans (sh_step l0 l1 l2 d j _ c)
theorem sh_run (l0 l1 l2 d j : Int) : ∀ (bs : List Int) (s : PS), QF l0 l1 l2 (shP d j s) bs = (shP d j (QF l0 l1 l2 s bs).1, shE d (QF l0 l1 l2 s bs).2)
  | [], s => rfl
  | c :: bs, s => by
    rw [XK, XK, sh_put, sh_run l0 l1 l2 d j bs]
    unfold XR
    rw [shE_app]
    refine Prod.ext rfl ?_
    unfold shE
    rw [List.map_map]
    rfl
/-- Ahead of a head. -/
abbrev idP (hd : Option HS) (t i : Int) : PS := ⟨hd, 0, .no, t, i, false, 0⟩
theorem sh_id (hd : Option HS) (t i : Int) : idP hd t i = shP t i (idP hd 0 0) := by simp [shP]
section
variable {l0 l1 l2 : Int}
/-- Blanks alone. -/
theorem run_blanks {bs : List Int} : ∀ (hd : Option HS) (t i : Int), (∀ c ∈ bs, Q8 c = true) → QF l0 l1 l2 (idP hd t i) bs = (idP hd (t + bs.length) i, []) := by
  induction bs with
  | nil => intro hd t i _; simp [QF]
  | cons c bs ih =>
    intro hd t i h
    rw [run_blank _ _ _ (h c (by simp)), ih hd (t + 1) i fun x hx => h x (by simp [hx])]
    simp only [List.length_cons]
    congr 2
    push_cast
    omega
theorem feed_nil {K M : Int} {bs ss : List Int} (f : Feed K M bs ss) : ss = [] → ∀ c ∈ bs, Q8 c = true := by
  induction f with
  | nil => intro _ c hc; cases hc
  | blank h _ ih => intro e c hc; rcases List.mem_cons.1 hc with rfl | hc; exact h; exact ih e c hc
  | bit _ _ _ _ => intro e; cases e
  | num _ _ _ _ _ => intro e; cases e
/-- Bytes that end no raster, told. -/
theorem go1_run {h : HS} {bs out : List Int} {s s' : RS} (g : Go1 h.K h.W h.H h.M bs s s' out) : ∀ (t i : Int) (cs : List Int), ∃ rows, (∀ x ∈ rows, x.1.k = 2) ∧ (rows.flatMap fun x => x.1.row) = out ∧ QF l0 l1 l2 ⟨some h, 2, .pl s, t, i, false, 0⟩ (bs ++ cs) = XR rows (QF l0 l1 l2 ⟨some h, 2, .pl s', t + bs.length, i, false, 0⟩ cs) := by
  induction g with
  | nil => intro t i cs; exact ⟨[], by simp, rfl, by simp [XR]⟩
  | @cons c bs out s s' hl g ih =>
    intro t i cs
    obtain ⟨rows, h1, h2, h3⟩ := ih (t + 1) i cs
    have hr := (YK l0 l1 l2 (bs := bs ++ cs) (put_pl l0 l1 l2 (h := h) (r := s) (told := t) (imgs := i) (c := c))).1 hl
    have hf := row_flat (Xw h.K h.W h.H h.M s c).2 (t + 1)
    refine ⟨atE (XB (Xw h.K h.W h.H h.M s c).2) (t + 1) ++ rows, fun x hx => (List.mem_append.1 hx).elim (hf.2 x) (h1 x), by rw [List.flatMap_append, hf.1, h2], ?_⟩
    rw [List.cons_append, hr, h3, Ys]
    congr 3
    simp only [List.length_cons]
    push_cast
    omega
theorem smp_cnt {K W H : Int} (s : RS) (x : Int) : (s.one.length : Int) + 1 + QT K * s.row.length = ((Yw K W H s x).1.one.length : Int) + QT K * ((Yw K W H s x).1.row.length + (Yw K W H s x).2.length) := by
  have hch : QT K = 1 ∨ QT K = 3 := by unfold QT; split <;> simp
  unfold Yw Xt XX Xz
  by_cases h : ((s.one ++ [x]).length : Int) = QT K
  · simp only [if_pos h]
    simp only [List.length_append, List.length_cons, List.length_nil] at h
    split <;> simp only [List.length_append, List.length_cons, List.length_nil] <;> rcases hch with e | e <;> rw [e] at h ⊢ <;> push_cast at h ⊢ <;> omega
  · simp only [if_neg h]
    split <;> simp only [List.length_append, List.length_cons, List.length_nil] <;> rcases hch with e | e <;> rw [e] <;> push_cast <;> omega
theorem smp_last {K W H : Int} (s : RS) (x : Int) (hl : s.last = 0) (h : (Yw K W H s x).1.last = 1) : (Yw K W H s x).1.row = [] := by
  unfold Yw Xt at h ⊢
  split
  · rename_i q
    rw [if_pos q] at h
    exact absurd (h.symm.trans (show (XX (QT K) s x).last = 0 from hl)) (by decide)
  · rfl
/-- A plain raster's samples told, to its last one. -/
theorem feed_run {h : HS} (hW : 1 ≤ h.W) {bs ss : List Int} (f : Feed h.K h.M bs ss) : ∀ (s s' : RS) (out : List Int), Cl h.W s → Zi h.K h.W h.H ss s = (true, s', out) → ∀ (t i : Int), ∃ b1 b2 ss1 ss2 rows t', bs = b1 ++ b2 ∧ ss = ss1 ++ ss2 ∧ Feed h.K h.M b2 ss2 ∧
    ((ss1.length : Int) + s.one.length + QT h.K * s.row.length = (s'.one.length : Int) + QT h.K * out.length) ∧ (∀ x ∈ rows, x.1.k = 2) ∧ (rows.flatMap fun x => x.1.row) = out ∧ QF l0 l1 l2 ⟨some h, 2, .pl s, t, i, false, 0⟩ b1 = (idP (some h) (t + b1.length) (i + 1), rows ++ [Zn t']) := by
  have one : ∀ (c x : Int) (s s1 : RS) (t i : Int), Xw h.K h.W h.H h.M s c = Yw h.K h.W h.H s1 x → (Yw h.K h.W h.H s1 x).1.last = 1 → ∃ rows t', (∀ x ∈ rows, x.1.k = 2) ∧ (rows.flatMap fun x => x.1.row) = (Yw h.K h.W h.H s1 x).2 ∧ QF l0 l1 l2 ⟨some h, 2, .pl s, t, i, false, 0⟩ [c] = (idP (some h) (t + 1) (i + 1), rows ++ [Zn t']) := by
    intro c x s s1 t i hp hl
    have hr := (YK l0 l1 l2 (bs := []) (put_pl l0 l1 l2 (h := h) (r := s) (told := t) (imgs := i) (c := c))).2.1 (by rw [hp]; exact hl)
    have hf := row_flat (Xw h.K h.W h.H h.M s c).2 (t + 1)
    rw [hp] at hr hf
    exact ⟨_, t + 1, hf.2, hf.1, by rw [hr]; simp [QF, XR]⟩
  have cnt1 : ∀ (s1 : RS) (x : Int), s1.last = 0 → (Yw h.K h.W h.H s1 x).1.last = 1 → (([x].length : Nat) : Int) + s1.one.length + QT h.K * s1.row.length = ((Yw h.K h.W h.H s1 x).1.one.length : Int) + QT h.K * (Yw h.K h.W h.H s1 x).2.length := by
    intro s1 x h0 h1
    have q := smp_cnt (K := h.K) (W := h.W) (H := h.H) s1 x
    rw [smp_last s1 x h0 h1] at q
    simp only [List.length_cons, List.length_nil] at q ⊢
    push_cast at q ⊢
    rw [Int.zero_add] at q
    omega
  have cnt2 : ∀ (s1 s' : RS) (x : Int) (ss1 out : List Int), (ss1.length : Int) + (Yw h.K h.W h.H s1 x).1.one.length + QT h.K * (Yw h.K h.W h.H s1 x).1.row.length = (s'.one.length : Int) + QT h.K * out.length → (((x :: ss1).length : Nat) : Int) + s1.one.length + QT h.K * s1.row.length = (s'.one.length : Int) + QT h.K * (((Yw h.K h.W h.H s1 x).2 ++ out).length : Nat) := by
    intro s1 s' x ss1 out e
    have q := smp_cnt (K := h.K) (W := h.W) (H := h.H) s1 x
    rw [List.length_append, List.length_cons]
    push_cast
    rw [Int.mul_add] at q ⊢
    omega
  induction f with
  | nil => intro s s' out _ h; simp [Zi] at h
  | @blank c bs ss hb f ih =>
    intro s s' out hs hq t i
    obtain ⟨b1, b2, ss1, ss2, rows, t', e1, e2, e3, e4, e5, e6, e7⟩ := ih s s' out hs hq (t + 1) i
    have hr := (YK l0 l1 l2 (bs := b1) (put_pl l0 l1 l2 (h := h) (r := s) (told := t) (imgs := i) (c := c))).1 (by rw [put_blank hb hs]; exact hs.2.1)
    rw [put_blank hb hs] at hr
    refine ⟨c :: b1, b2, ss1, ss2, rows, t', by rw [e1]; rfl, e2, e3, e4, e5, e6, ?_⟩
    rw [hr, e7]
    simp only [XB, atE, XR, List.map_nil, List.nil_append, if_true, List.length_cons]
    congr 2
    push_cast
    omega
  | @bit x bs ss hK hx f ih =>
    intro s s' out hs hq t i
    have hp := put_bit (H := h.H) (M := h.M) hK hx hs
    rw [Zi] at hq
    split at hq
    · rename_i hl
      simp only [Prod.mk.injEq, true_and] at hq
      obtain ⟨rfl, rfl⟩ := hq
      obtain ⟨rows, t', h1, h2, h3⟩ := one (48 + x) x s s t i hp hl
      exact ⟨[48 + x], bs, [x], ss, rows, t', rfl, rfl, f, cnt1 s x hs.2.1 hl, h1, h2, h3⟩
    · rename_i hl
      have hc := (smpR_cl hW hs).resolve_left hl
      simp only [Prod.mk.injEq] at hq
      obtain ⟨h1, rfl, rfl⟩ := hq
      obtain ⟨b1, b2, ss1, ss2, rows, t', e1, e2, e3, e4, e5, e6, e7⟩ := ih _ _ _ hc (Prod.ext h1 rfl) (t + 1) i
      have hr := (YK l0 l1 l2 (bs := b1) (put_pl l0 l1 l2 (h := h) (r := s) (told := t) (imgs := i) (c := 48 + x))).1 (by rw [hp]; exact hc.2.1)
      have hf := row_flat (Yw h.K h.W h.H s x).2 (t + 1)
      rw [hp, e7] at hr
      refine ⟨(48 + x) :: b1, b2, x :: ss1, ss2, atE (XB (Yw h.K h.W h.H s x).2) (t + 1) ++ rows, t', by rw [e1]; rfl, by rw [e2]; rfl, e3, cnt2 s _ x ss1 _ e4, fun y hy => (List.mem_append.1 hy).elim (hf.2 y) (e5 y), by rw [List.flatMap_append, hf.1, e6], ?_⟩
      rw [hr]
      simp only [XR, List.length_cons, List.append_assoc]
      congr 2
      push_cast
      omega
  | @num n c bs ss hK hM hb f ih =>
    intro s s' out hs hq t i
    obtain ⟨n0, one', row, rows0, last, e⟩ := s
    have hs0 := hs
    obtain ⟨rfl, rfl, hr0⟩ := hs
    have hg := dig_run (H := h.H) hK n one' row rows0 e hM hr0
    have hp := put_end (W := h.W) (H := h.H) (M := h.M) (one := one') (row := row) (rows := rows0) (e := e) (n := n) hK hb
    rw [Zi] at hq
    split at hq
    · rename_i hl
      simp only [Prod.mk.injEq, true_and] at hq
      obtain ⟨rfl, rfl⟩ := hq
      obtain ⟨rA, g1, g2, g3⟩ := go1_run (l0 := l0) (l1 := l1) (l2 := l2) (h := h) hg t i [c]
      obtain ⟨rows, t', h1, h2, h3⟩ := one c n _ _ (t + (X0 n).length) i hp hl
      refine ⟨X0 n ++ [c], bs, [(n : Int)], ss, rA ++ rows, t', by simp, rfl, f, cnt1 _ n rfl hl, fun y hy => (List.mem_append.1 hy).elim (g1 y) (h1 y), by rw [List.flatMap_append, g2, h2]; rfl, ?_⟩
      rw [g3, h3]
      simp only [XR, List.length_append, List.length_cons, List.length_nil, List.append_assoc]
      congr 2
      push_cast
      omega
    · rename_i hl
      have hc := (smpR_cl hW hs0).resolve_left hl
      simp only [Prod.mk.injEq] at hq
      obtain ⟨h1, rfl, rfl⟩ := hq
      obtain ⟨b1, b2, ss1, ss2, rows, t', e1, e2, e3, e4, e5, e6, e7⟩ := ih _ _ _ hc (Prod.ext h1 rfl) (t + (X0 n).length + 1) i
      obtain ⟨rA, g1, g2, g3⟩ := go1_run (l0 := l0) (l1 := l1) (l2 := l2) (h := h) hg t i (c :: b1)
      have hr := (YK l0 l1 l2 (bs := b1) (put_pl l0 l1 l2 (h := h) (r := ⟨n, one', row, rows0, 0, e⟩) (told := t + (X0 n).length) (imgs := i) (c := c))).1 (by rw [hp]; exact hc.2.1)
      have hf := row_flat (Yw h.K h.W h.H ⟨-1, one', row, rows0, 0, e⟩ n).2 (t + (X0 n).length + 1)
      rw [hp, e7] at hr
      refine ⟨X0 n ++ c :: b1, b2, (n : Int) :: ss1, ss2, rA ++ (atE (XB (Yw h.K h.W h.H ⟨-1, one', row, rows0, 0, e⟩ n).2) (t + (X0 n).length + 1) ++ rows), t', by rw [e1]; simp, by rw [e2]; rfl, e3, cnt2 _ _ n ss1 _ e4, fun y hy => (List.mem_append.1 hy).elim (g1 y) fun q => (List.mem_append.1 q).elim (hf.2 y) (e5 y), by rw [List.flatMap_append, List.flatMap_append, g2, hf.1, e6]; rfl, ?_⟩
      rw [g3, hr]
      simp only [XR, List.length_append, List.length_cons, List.append_assoc]
      congr 2
      push_cast
      omega
theorem unp_len {ch M : Int} : ∀ {l : List Int}, (∀ p ∈ l, Can ch M p) → ((l.flatMap Qw).length : Int) = ch * l.length
  | [], _ => by simp
  | p :: l, h => by
    have ih := unp_len fun q hq => h q (List.mem_cons_of_mem _ hq)
    have h1 := (h p (by simp)).1
    rw [List.flatMap_cons, List.length_append, List.length_cons]
    push_cast
    rw [Int.mul_add, ih, h1]
    omega
/-- A plain raster that was written, told. -/
theorem plain_run {h : HS} {bs px : List Int} (hP : Zz h.K h.W h.H h.M) (f : Feed h.K h.M bs (px.flatMap Qw)) (hc : ∀ p ∈ px, Can (QT h.K) h.M p) (hl : (px.length : Int) = h.H * h.W) (t i : Int) : ∃ rows t', (∀ x ∈ rows, x.1.k = 2) ∧ (rows.flatMap fun x => x.1.row) = px ∧ QF l0 l1 l2 ⟨some h, 2, .pl s0R, t, i, false, 0⟩ bs = (idP (some h) (t + bs.length) (i + 1), rows ++ [Zn t']) := by
  have hP2 := hP.1
  unfold XN at hP2
  obtain ⟨s', hs⟩ := (rows_fold (K := h.K) (W := h.W) (H := h.H) (M := h.M) (by omega) px [] 0 hc (by simp; omega) (by omega)).1 (by simpa using hl)
  rw [List.nil_append] at hs
  obtain ⟨b1, b2, ss1, ss2, rows, t', e1, e2, e3, e4, e5, e6, e7⟩ := feed_run (l0 := l0) (l1 := l1) (l2 := l2) (by omega) f s0R s' _ ⟨rfl, rfl, by simp [s0R]; omega⟩ hs t i
  have hn := unp_len hc
  rw [e2, List.length_append] at hn
  push_cast at hn
  simp only [s0R, List.length_nil] at e4
  have h2 : ss2 = [] := List.eq_nil_of_length_eq_zero (by push_cast at e4; omega)
  refine ⟨rows, t', e5, e6, ?_⟩
  rw [e1, Zx, e7]
  dsimp only
  rw [run_blanks _ _ _ (feed_nil e3 h2)]
  simp only [XR, List.append_nil, List.length_append]
  congr 2
  push_cast
  omega
theorem raw_rows {h : HS} {bs : List Int} (hf : Yo h) (hb : ¬ YS h.K h.W.toNat h.H.toNat h.M bs > 0) (hl : h.H.toNat * Qy h.K h.W.toNat (Qi h.M) ≤ bs.length) : ∀ y, y ≤ h.H.toNat → rwI l0 l1 l2 h bs 0 0 y (rowsX h bs y)
  | 0, _ => rwI0 (by have := hf.2.2; unfold XN at this; omega)
  | y + 1, hy => by
    rw [rowsX_succ]
    refine rw_row hf (raw_rows hf hb hl y (by omega)) (by omega) (by rw [List.drop_zero]; exact fun q => hb q.1) ?_
    have := Nat.mul_le_mul_right (Qy h.K h.W.toNat (Qi h.M)) hy
    omega
/-- A raw raster that was written, told. -/
theorem raw_run {h : HS} {bs px : List Int} (hf : Yo h) (hr : rawF h.K h.W.toNat h.H.toNat h.M bs = (px, 0)) (hl : bs.length = h.H.toNat * Qy h.K h.W.toNat (Qi h.M)) (t i : Int) : ∃ rows t', (∀ x ∈ rows, x.1.k = 2) ∧ (rows.flatMap fun x => x.1.row) = px ∧ QF l0 l1 l2 ⟨some h, 2, .rw (rw0 h), t, i, false, 0⟩ bs = (idP (some h) (t + bs.length) (i + 1), rows ++ [Zn t']) := by
  have hM := hf.2.2
  unfold XN at hM
  unfold rawF at hr
  split at hr
  · cases hr
  · rename_i hb
    split at hr
    · cases hr
    · have hI := raw_rows (l0 := l0) (l1 := l1) (l2 := l2) hf hb (by omega) h.H.toNat (Nat.le_refl _)
      have hq := hI.2 (by omega)
      rw [List.drop_zero, Nat.zero_add, ← hl, List.drop_length] at hq
      have hs := sh_run l0 l1 l2 t i bs ⟨some h, 2, .rw (rw0 h), 0, 0, false, 0⟩
      have hz : QF l0 l1 l2 ⟨some h, 2, .rw (rw0 h), ((0 : Nat) : Int), 0, false, 0⟩ bs = QF l0 l1 l2 ⟨some h, 2, .rw (rw0 h), 0, 0, false, 0⟩ bs := rfl
      rw [← hz, hq] at hs
      simp only [shP, QF, XR, Int.zero_add, List.append_nil] at hs
      simp only [Prod.mk.injEq] at hr
      refine ⟨shE t (rowsX h bs h.H.toNat), (bs.length : Int) + t, fun x hx => ?_, ?_, ?_⟩
      · obtain ⟨y, hy, rfl⟩ := List.mem_map.1 hx
        exact rowsX_k h bs _ y hy
      · rw [← hr.1, ← rowsX_flat]
        unfold shE
        rw [List.flatMap_map]
      · rw [hs, shE_app, Int.add_comm t, Int.add_comm i]
        rfl
end
/-- What events tell of images, wherever they stand. -/
def ImP (es : List (Evt × Int)) (L : List Img) : Prop := ∀ es0, X9 (es0 ++ es) = X9 es0 ++ L
theorem ImP.nil : ImP [] [] := fun es0 => by simp
theorem ImP.app {a b : List (Evt × Int)} {L M : List Img} (h : ImP a L) (g : ImP b M) : ImP (a ++ b) (L ++ M) := fun es0 => by rw [← List.append_assoc, g, h, List.append_assoc]
theorem ImP.sh {es : List (Evt × Int)} {L : List Img} (h : ImP es L) (d : Int) : ImP (shE d es) L := fun es0 => by
  have := h es0
  unfold X9 at this ⊢
  rw [List.map_append, shE_fst, ← List.map_append]
  exact this
def hdE (hd : Option HS) : Prop := ∀ x, hd = some x → x.e = 0
/-- An image that was written, told from anywhere. -/
theorem img_run {most : Int} (hmo : most ≤ 100) {m : Img} {k : Int} (hg : ZK most m) (hk : k ∈ Xi m.c m.m) (hd : Option HS) (t i : Int) : ∃ hd' es, hdE hd' ∧ ImP es [m] ∧ QF 4096 65536 65535 (idP hd t i) (wrI m k) = (idP hd' (t + (wrI m k).length) (i + 1), es) := by
  obtain ⟨hMay, hfit, _⟩ := good_fits hmo hg hk
  obtain ⟨_, hk16, hck, hk1⟩ := kinds_mem hk
  obtain ⟨_, hg2, hgw, hgh, hgl, hgp⟩ := hg
  have hcan : ∀ p ∈ m.px, Can (QT k) m.m p := fun p hp => by rw [hck]; exact (hgp p hp).1
  have hL : LimO 4096 65536 65535 := ⟨by omega, by omega, by omega⟩
  have hM2 := hMay
  unfold XN at hM2
  obtain ⟨R, hR⟩ : ∃ R, R = (if k < 4 then wrL k m.w 0 m.px else YP k m.w.toNat (Qi m.m) m.px m.h.toNat) := ⟨_, rfl⟩
  have hwr : wrI m k = hdW k m.w m.h m.m ++ R := by rw [hR]; rfl
  have hP := hdP_back hL hMay (by omega) (by omega) (by omega) R
  have h80 : ∃ r, hdW k m.w m.h m.m ++ R = 80 :: r := ⟨_, by unfold hdW; simp only [List.append_assoc, List.cons_append, List.nil_append]; rfl⟩
  obtain ⟨r80, h80⟩ := h80
  obtain ⟨-, -, -, hfin⟩ := run_parse hL (bs := hdW k m.w m.h m.m ++ R) (at_ := 0) (imgs := 0) (hd := hd) (c := 80) (r := r80) (by rw [List.drop_zero]; exact h80) rfl hP.symm
  obtain ⟨h', hf, rfl, hW, hH, hM, hrun⟩ := hfin rfl
  rw [List.drop_zero] at hrun
  have hn : (((0 : Nat) : Int) + ((hdW h'.K m.w m.h m.m).length : Int)).toNat = (hdW h'.K m.w m.h m.m).length := by omega
  rw [hn, List.drop_left] at hrun
  have hbody : ∃ rows t', (∀ x ∈ rows, x.1.k = 2) ∧ (rows.flatMap fun x => x.1.row) = m.px ∧ QF 4096 65536 65535 ⟨some h', 2, bd0 h', ((0 : Nat) : Int) + ((hdW h'.K m.w m.h m.m).length : Int), 0, false, 0⟩ R = (idP (some h') (((0 : Nat) : Int) + ((hdW h'.K m.w m.h m.m).length : Int) + R.length) (0 + 1), rows ++ [Zn t']) := by
    by_cases h4 : h'.K < 4
    · rw [if_pos h4] at hR
      rw [bd0, if_neg (by omega), hR]
      refine plain_run ⟨by rw [hW, hH, hM]; exact hMay, by omega⟩ ?_ (by rw [hM]; exact hcan) (by rw [hW, hH, hgl, Int.mul_comm]) _ _
      rw [hM]
      exact feed_wr (by omega) (by omega) (fun q => hk1 (.inl q)) m.px 0 hcan
    · rw [if_neg h4] at hR
      rw [bd0, if_pos (by omega), hR]
      have hWn : ((m.w.toNat : Nat) : Int) = m.w := by omega
      have hHn : ((m.h.toNat : Nat) : Int) = m.h := by omega
      have hpn : m.px.length = m.w.toNat * m.h.toNat := by
        have q : ((m.w.toNat * m.h.toNat : Nat) : Int) = m.w * m.h := by rw [Int.natCast_mul, hWn, hHn]
        omega
      have hsb := X1 (K := h'.K) (W := m.w.toNat) (Q7 m.m) (by omega) (by omega)
      have hb := raw_back (K := h'.K) (M := m.m) (W := m.w.toNat) (Hn := m.h.toNat) (by omega) (by omega) (fun h => hk1 (.inr h)) hpn hcan (List.replicate (Qy h'.K m.w.toNat (Qi m.m)) 0) (by simp) 0
      have hw := readW_raw hf (YP h'.K m.w.toNat (Qi m.m) m.px m.h.toNat) (List.replicate (Qy h'.K m.w.toNat (Qi m.m)) 0) (by rw [hW, hM]; simp) (by rw [List.length_replicate]; exact hsb.1)
      have hwl := wrRaw_len (K := h'.K) (w := Qi m.m) (Q7 m.m) hpn (fun p hpp => by have := can_fit (hfit p hpp); omega) m.h.toNat (Nat.le_refl _)
      rw [hW, hH, hM] at hw
      rw [hHn] at hb
      refine raw_run hf (by rw [hW, hH, hM]; exact hw.symm.trans hb) ?_ _ _
      rw [hW, hH, hM, hwl]
      exact Nat.mul_comm _ _
  obtain ⟨rows, t', hk2, hfl, hb⟩ := hbody
  refine ⟨some h', shE t ((YQ h', ((0 : Nat) : Int) + ((hdW h'.K m.w m.h m.m).length : Int)) :: (rows ++ [Zn t'])), fun x hx => by cases hx; exact hf.2.1, ImP.sh (fun es0 => ?_) t, ?_⟩
  · have := imsO_body (h := h') (es := es0) (n := ((0 : Nat) : Int) + ((hdW h'.K m.w m.h m.m).length : Int)) (out := rows ++ [Zn t']) rfl hk2
    rw [List.append_assoc] at this
    rw [show imOf h' (rows ++ [Zn t']) = m by
      unfold imOf
      rw [List.flatMap_append, hfl, hck, hW, hH, hM]
      simp [Zn]] at this
    exact this
  · rw [sh_id hd t i, hwr, sh_run]
    have hz : QF 4096 65536 65535 (idP hd 0 0) (hdW h'.K m.w m.h m.m ++ R) = XR [(YQ h', ((0 : Nat) : Int) + ((hdW h'.K m.w m.h m.m).length : Int))] (idP (some h') (((0 : Nat) : Int) + ((hdW h'.K m.w m.h m.m).length : Int) + R.length) (0 + 1), rows ++ [Zn t']) := by rw [← hb]; exact hrun
    rw [hz]
    simp only [XR, shP, List.length_append]
    refine Prod.ext ?_ rfl
    simp only [PS.mk.injEq, true_and, and_true]
    push_cast
    omega
/-- Images, joined. -/
theorem join_run {most : Int} (hmo : most ≤ 100) : ∀ {ms : List Img} {ks : List Int}, KindsOk ms ks → (∀ m ∈ ms, ZK most m) → ∀ (hd : Option HS) (t i : Int), hdE hd → ∃ hd' es, hdE hd' ∧ ImP es ms ∧ QF 4096 65536 65535 (idP hd t i) (Yu ms ks) = (idP hd' (t + (Yu ms ks).length) (i + ms.length), es)
  | [], [], _, _, hd, t, i, he => ⟨hd, [], he, ImP.nil, by simp [Yu, QF]⟩
  | m :: ms, k :: ks, ⟨h1, h2⟩, hg, hd, t, i, he => by
    obtain ⟨hd1, e1, q1, q2, q3⟩ := img_run hmo (hg m (by simp)) h1 hd t i
    have hn : ∀ c ∈ (if k < 4 then [10] else [] : List Int), Q8 c = true := fun c hc => by
      split at hc
      · simp at hc; subst hc; rfl
      · simp at hc
    obtain ⟨hd2, e2, p1, p2, p3⟩ := join_run hmo h2 (fun x hx => hg x (by simp [hx])) hd1 (t + (wrI m k).length + (if k < 4 then [10] else [] : List Int).length) (i + 1) q1
    refine ⟨hd2, e1 ++ e2, p1, ImP.app q2 p2, ?_⟩
    rw [Yu, List.append_assoc, Zx, q3]
    dsimp only
    rw [Zx, run_blanks _ _ _ hn]
    dsimp only
    rw [p3]
    simp only [XR, List.length_append, List.length_cons, List.nil_append]
    refine Prod.ext ?_ rfl
    simp only [PS.mk.injEq, true_and, and_true]
    push_cast
    omega
theorem run_hd (l0 l1 l2 : Int) : ∀ (bs : List Int) (hd hd' : Option HS) (t i : Int), (QF l0 l1 l2 (idP hd t i) bs).2 = (QF l0 l1 l2 (idP hd' t i) bs).2
  | [], _, _, _, _ => rfl
  | c :: bs, hd, hd', t, i => by
    cases hb : Q8 c with
    | true => rw [run_blank _ _ _ hb, run_blank _ _ _ hb]; exact run_hd l0 l1 l2 bs _ _ _ _
    | false => rw [run_first _ _ _ (hd := hd) hb, run_first _ _ _ (hd := hd') hb]
theorem run_fst (l0 l1 l2 : Int) (bs : List Int) (hd : Option HS) (t i : Int) : (QF l0 l1 l2 (idP hd t i) bs).2.map (·.1) = (QF l0 l1 l2 ps0 bs).2.map (·.1) := by
  rw [sh_id, sh_run, shE_fst, run_hd l0 l1 l2 bs hd none]
  rfl
theorem run_I {l0 l1 l2 : Int} (hL : LimO l0 l1 l2) : ∀ (bs : List Int) (N : Nat) (s : PS), (∀ x ∈ bs, 0 ≤ x ∧ x ≤ 255) → psI l0 l1 l2 N s → psI l0 l1 l2 (N + bs.length) (QF l0 l1 l2 s bs).1
  | [], N, s, _, h => h
  | c :: bs, N, s, hb, h => by
    have hc := hb c (List.mem_cons_self ..)
    have := run_I hL bs (N + 1) _ (fun x hx => hb x (List.mem_cons_of_mem _ hx)) (psPut_I hL h hc.1 hc.2)
    rw [List.length_cons, show N + (bs.length + 1) = N + 1 + bs.length by omega]
    exact this
theorem id_I (l0 l1 l2 : Int) {hd : Option HS} {t i N : Nat} (he : hdE hd) (h1 : t ≤ N) (h2 : i ≤ N) : psI l0 l1 l2 N (idP hd t i) := ⟨⟨by simp, by simp; omega⟩, ⟨by simp, by simp; omega⟩, fun _ _ => .inl ⟨rfl, rfl, he⟩⟩
theorem tw_step (l0 l1 l2 : Int) (s0 : PS) {own : List Int} {i : Nat} (hi : i < own.length) : QF l0 l1 l2 s0 (own.take (i + 1)) = ((Xq l0 l1 l2 (QF l0 l1 l2 s0 (own.take i)).1 own[i]).1, (QF l0 l1 l2 s0 (own.take i)).2 ++ (Xq l0 l1 l2 (QF l0 l1 l2 s0 (own.take i)).1 own[i]).2.map fun x => (x, (Xq l0 l1 l2 (QF l0 l1 l2 s0 (own.take i)).1 own[i]).1.told)) := by
  rw [List.take_succ_eq_append_getElem hi, psRun_snoc]
theorem tw_at {l0 l1 l2 : Int} {hd : Option HS} {t n : Int} {own : List Int} {i j : Nat} {es : List (Evt × Int)} {evs : List Evt} (hes : es = (QF l0 l1 l2 ps0 own).2) (hi : i < own.length) (hev : evs = (Xq l0 l1 l2 (QF l0 l1 l2 (idP hd t n) (own.take i)).1 own[i]).2) (hj : j < evs.length) :
    ∃ h : (QF l0 l1 l2 (idP hd t n) (own.take i)).2.length + j < es.length, es[(QF l0 l1 l2 (idP hd t n) (own.take i)).2.length + j].1 = evs[j] := by
  have h1 := run_fst l0 l1 l2 own hd t n
  rw [← hes] at h1
  have h2 : (QF l0 l1 l2 (idP hd t n) own).2 = (QF l0 l1 l2 (idP hd t n) (own.take (i + 1))).2 ++ (QF l0 l1 l2 (QF l0 l1 l2 (idP hd t n) (own.take (i + 1))).1 (own.drop (i + 1))).2 := by
    have := Zx l0 l1 l2 (own.take (i + 1)) (own.drop (i + 1)) (idP hd t n)
    rw [List.take_append_drop] at this
    rw [this]; rfl
  rw [h2, tw_step l0 l1 l2 _ hi, ← hev, List.append_assoc, List.map_append] at h1
  have h3 : (es.map (·.1))[(QF l0 l1 l2 (idP hd t n) (own.take i)).2.length + j]? = some evs[j] := by
    rw [← h1, List.getElem?_append_right (by rw [List.length_map]; omega), List.length_map, Nat.add_sub_cancel_left, List.map_append, List.getElem?_append_left (by rw [List.length_map, List.length_map]; exact hj), List.map_map]
    rw [List.getElem?_map, List.getElem?_eq_getElem hj]
    rfl
  obtain ⟨h4, h5⟩ := List.getElem?_eq_some_iff.1 h3
  rw [List.length_map] at h4
  rw [List.getElem_map] at h5
  exact ⟨h4, h5⟩
theorem tw_len {l0 l1 l2 : Int} {hd : Option HS} {t n : Int} {own : List Int} {es : List (Evt × Int)} (hes : es = (QF l0 l1 l2 ps0 own).2) : (QF l0 l1 l2 (idP hd t n) own).2.length = es.length := by
  have h1 := congrArg List.length (run_fst l0 l1 l2 own hd t n)
  rw [List.length_map, List.length_map, ← hes] at h1
  exact h1
theorem psPut_ok2 (l0 l1 l2 : Int) (s : PS) (c : Int) : EvOk (Xq l0 l1 l2 s c).2 := (psPut_q l0 l1 l2 s c).2.2.2.2
theorem join_runL {most : Int} (hmo : most ≤ 100) {ms : List Img} {ks : List Int} (h : KindsOk ms ks) (hg : ∀ m ∈ ms, ZK most m) (hd : Option HS) (t i : Int) (he : hdE hd) : ∃ hd' es, hdE hd' ∧ ImP es ms ∧ QF (QG 4096) (QH 65536) (QI 65535) (idP hd t i) (Yu ms ks) = (idP hd' (t + (Yu ms ks).length) (i + ms.length), es) := by
  rw [lims_all.1, lims_all.2.1, lims_all.2.2]
  exact join_run hmo h hg hd t i he
structure TwX where
  (r : Nat) (hd : Option HS)

end Go.Proofs.YtggamdlpiejbiaaGreat
namespace Go.Proofs.YtggamdlpiejbiaaGreat
open Go.RowKit Go.Shelf

set_option maxRecDepth 4000 in
set_option maxHeartbeats 4000000 in
theorem lTwice_spec (A0 : HP) (ga : Option Addr) (gc : Nat) (gs : List GS) (hgl : gs.length ≤ 9223372036854775807) (hG : RdsL [A0] ga (gs.flatMap gC)) (hgs : GsOk A0 gs) (ya : Option Addr) (yc : Nat) (ys : List Int) (hy : RdsL [A0] ya (Q2 ys)) (hyl : ys.length ≤ 9223372036854775807) : Fn Tryz.prog 5 #[.slice ga gs.length gc, .slice ya ys.length yc] [A0] (fun v l => v = .bool true ∧ l = [A0]) := by
 refine Qo (vs := [.slice ga gs.length gc, .slice ya ys.length yc]) Tryz.func5 rfl Tryz.ntmps5 rfl (Qb (Qa (Qd rfl rfl (WpL.nil (Qb (Qa (Qc rfl rfl (Qk rfl rfl (by repeat' constructor) (rGood11_spec A0 ga gc gs hgl hG hgs 5 (by omega)) ?_))))))))
 rintro _ _ ⟨ims, ag, cg, hgd, hl3, rfl, rfl⟩
 simp only [Qv]
 refine WpL.exs Take1.here fun L => ?_
 refine WpL.pur Take1.here fun hL => ?_
 subst hL
 rw [List.length_map] at *
 have hfm : ∀ r ∈ L, FmtP r.1.c r.1.m := fun r hr => by have q := hgd r.1 (List.mem_map_of_mem hr); exact ⟨q.1, q.2.1⟩
 refine Qd rfl rfl (WpL.nil (Qb (Qa (Qc rfl rfl (Qc rfl rfl (Qc rfl rfl (Qk rfl rfl (by repeat' constructor) (rKinds11_spec [own 71 5 ag cg L.length (L.flatMap iC), A0] ag cg L Q4.head hfm (by omega) ya yc ys hy.tail hyl) ?_)))))))
 rintro _ _ ⟨ks, ak, ck, hko, rfl, rfl⟩
 simp only [Qv]
 refine Qk rfl rfl (by repeat' constructor) (rJoin_spec (own 71 5 ag cg L.length (L.flatMap iC)) (Zc (L.map fun r => own 92 1 r.2.1 r.2.2 r.1.px.length (XG r.1.px))) (own 3 1 ak ck ks.length (Q2 ks)) ag cg L Q4 (fun r hr => rc_row (row := Img.px) hr) 5 (by omega) (fun r hr => hgd r.1 (List.mem_map_of_mem hr)) (by omega) ak ck ks Q4 hko) ?_
 rintro _ _ ⟨ao, co, rfl, rfl⟩
 simp only [Qv]
 have hjl := joinI_bd (by omega) hko hgd
 have hjb := joinI_byte (by omega) hko hgd
 have hjrun := fun hd t i => join_runL (by omega) hko hgd hd t i
 rw [List.length_map] at hjl hjrun
 generalize (Yu (L.map (·.1)) ks) = own1 at *
 refine Zd (by repeat' constructor) (fun hco => ?_)
 refine Qc rfl rfl (QL rfl rfl rfl (QL rfl rfl rfl (Qd rfl rfl (Qd rfl rfl (WpL.nil (Qb (Qa (Qk rfl rfl (by repeat' constructor) (hdAll_spec) ?_))))))))
 rintro _ _ ⟨rfl, rfl⟩
 simp only [Qv]
 refine Qk rfl rfl (by repeat' constructor) (pnNew_spec 4096 65536 65535) ?_
 rintro _ _ ⟨gP, rfl, rfl⟩
 simp only [Qv]
 refine Qd rfl rfl (WpL.nil (Qb (Qb (Qa (Qc rfl rfl (s_peq rfl Tryz.underlying35 rfl rfl (WpL.nil (ZY rfl rfl (Wp.skip (Qb (Qa (Qc rfl rfl ?_))))))))))))
 refine Qk rfl rfl (by repeat' constructor) (hdAll_spec) ?_
 rintro _ _ ⟨rfl, rfl⟩
 simp only [Qv]
 refine Qk rfl rfl (by repeat' constructor) (rStream_spec (own 5 1 ao co own1.length (XY own1)) ao co own1 Q4 hjb hco (by omega) 4096 65536 65535 false) ?_
 rintro _ _ ⟨aL, cL, aI, cI, s1, es, A1, hall, hA1, rfl, hel, rfl⟩
 simp only [Qv]
 have hes : es = (QF (QG 4096) (QH 65536) (QI 65535) ps0 own1).2 := congrArg (·.2) hall
 refine X6 rfl ?_
 intro gS
 refine QE rfl rfl rfl (by rfl) rfl ?_
 refine WpL.nil (Qb (Qb (Qa (Qd rfl rfl (WpL.nil (Wp.block ?_))))))
 refine Wp.ent (Take.ent' (pre := [esR aL cL es, psR gP 4096 65536 65535 ps0, QD gS [.slice aL es.length cL, .slice aI (X9 es).length cI, .int .i64 s1.e, .int .i64 A1, .int .i64 s1.told] 33, own 5 1 ao co own1.length (XY own1), A0]) (by repeat' constructor)) ?_
 refine Wp.exs Take1.here fun lE => ?_
 refine Wp.pur Take1.here fun hlEe => ?_
 refine Wp.loopD (σ := TwX) (fun x => x.r ≤ 2 ∧ hdE x.hd) [4, 10, 11, 12, 13, 14, 32, 33, 34, 35, 36, 37, 38, 39, 40, 41, 42, 43, 44, 45, 46, 47, 48, 49, 50, 51, 52, 53, 54, 55, 56, 57, 58, 59, 60, 61, 62, 63, 64, 65, 66, 67, 68, 69, 70, 71, 72, 73, 74, 75, 76, 77, 78, 79, 80, 81, 82, 83, 84, 85, 86] (fun x => [(10, .int .i64 (x.r : Int))]) (fun x => [psR gP 4096 65536 65535 (idP x.hd ((x.r * own1.length : Nat) : Int) ((x.r * L.length : Nat) : Int)), QD gS [.slice aL es.length cL, .slice aI (X9 es).length cI, .int .i64 s1.e, .int .i64 A1, .int .i64 s1.told] 33, own 53 7 aL cL es.length (lE.flatMap (fun r => eaC r.1 r.2.1 r.2.2)), Zc (lE.map (fun r => own 92 1 r.2.1 r.2.2 (Zk r.1).length (XG (Zk r.1)))), own 5 1 ao co own1.length (XY own1), A0]) (fun x => 2 - x.r) ⟨0, none⟩ ?_ (by repeat (first | exact FrLe.nil | refine FrLe.cons rfl ?_)) ?_ ?_
 ·exact ⟨Nat.zero_le _, fun _ h => by cases h⟩
 ·simp only [Nat.zero_mul]
  exact Take.ent' (by repeat' constructor)
 ·rintro ⟨r, hd⟩ ⟨hr2, hhd⟩
  dsimp only at hr2 hhd ⊢
  refine Qb (Qb (Qa (Qc rfl rfl (Xc rfl rfl rfl (WpL.nil (Qh rfl (fun h2 => ?_) (fun h2 => ?_)))))))
  ·have hr1 : r < 2 := by omega
   have hrl : r * own1.length ≤ 1 * own1.length := Nat.mul_le_mul_right _ (by omega)
   have hrn : r * L.length ≤ 1 * L.length := Nat.mul_le_mul_right _ (by omega)
   refine Wp.skip (Qb (Wp.block ?_))
   refine Qb (Qa (Qd rfl rfl (WpL.nil (Qb (Qb (Qa (Qd rfl rfl (WpL.nil (Wp.block ?_)))))))))
   refine Wp.loopD (σ := Nat) (fun i => i ≤ own1.length) [4, 11, 12, 13, 14, 36, 37, 38, 39, 40, 41, 42, 43, 44, 45, 46, 47, 48, 49, 50, 51, 52, 53, 54, 55, 56, 57, 58, 59, 60, 61, 62, 63, 64, 65, 66, 67, 68, 69, 70, 71] (fun i => [(12, .int .i64 (i : Int)), (11, .int .i64 (((QF (QG 4096) (QH 65536) (QI 65535) (idP hd ((r * own1.length : Nat) : Int) ((r * L.length : Nat) : Int)) (own1.take i)).2.length : Nat) : Int))]) (fun i => [psR gP 4096 65536 65535 (QF (QG 4096) (QH 65536) (QI 65535) (idP hd ((r * own1.length : Nat) : Int) ((r * L.length : Nat) : Int)) (own1.take i)).1, QD gS [.slice aL es.length cL, .slice aI (X9 es).length cI, .int .i64 s1.e, .int .i64 A1, .int .i64 s1.told] 33, own 53 7 aL cL es.length (lE.flatMap (fun r => eaC r.1 r.2.1 r.2.2)), Zc (lE.map (fun r => own 92 1 r.2.1 r.2.2 (Zk r.1).length (XG (Zk r.1)))), own 5 1 ao co own1.length (XY own1), A0]) (fun i => own1.length - i) 0 ?_ (FrLe.cons rfl (FrLe.cons rfl FrLe.nil)) ?_ ?_
   ·exact Nat.zero_le _
   ·exact Ent.refl _
   ·intro i hi
    refine Qb (Qb (Qa (Qc rfl rfl (Qc rfl rfl (QO rfl rfl (Xc rfl rfl rfl (WpL.nil (Qh rfl (fun h4 => ?_) (fun h4 => ?_)))))))))
    ·have hlt : i < own1.length := by omega
     have hcb := hjb _ (List.getElem_mem hlt)
     have hI := run_I (lim_o 4096 65536 65535) (own1.take i) (r * own1.length + L.length + r * L.length) (idP hd ((r * own1.length : Nat) : Int) ((r * L.length : Nat) : Int)) (fun x hx => hjb x (List.mem_of_mem_take hx)) (id_I _ _ _ hhd (by omega) (by omega))
     rw [List.length_take] at hI
     refine Wp.skip (Qb (Wp.block ?_))
     refine Qb (Qa (Qc rfl rfl (Qc rfl rfl (Qc rfl rfl (Xs i rfl rfl rfl (Q4 (T := 5) (s := 1) (a := ao) (c := co) (m := own1.length)) (by exact Take.ent' (by repeat' constructor)) rfl (by omega) (by rw [XP]; exact hlt) ?_)))))
     refine Xv rfl rfl (Q4 (T := 5) (s := 1) (a := ao) (c := co) (m := own1.length)) (by exact Take.ent' (by repeat' constructor)) (Zl own1 hlt) ?_
     refine Qk rfl rfl (by repeat' constructor) (psPut_rep gP 4096 65536 65535 _ _ (by omega) hI _ (by omega) (by omega)) ?_
     rintro _ _ rfl
     simp only [Qv]
     obtain ⟨evs, hev⟩ : ∃ e, e = (Xq (QG 4096) (QH 65536) (QI 65535) (QF (QG 4096) (QH 65536) (QI 65535) (idP hd ((r * own1.length : Nat) : Int) ((r * L.length : Nat) : Int)) (own1.take i)).1 own1[i]).2 := ⟨_, rfl⟩
     rw [show (Xq (QG 4096) (QH 65536) (QI 65535) (QF (QG 4096) (QH 65536) (QI 65535) (idP hd ((r * own1.length : Nat) : Int) ((r * L.length : Nat) : Int)) (own1.take i)).1 own1[i]).2 = evs from hev.symm]
     refine WpL.ent (Take.ent' (pre := [evO _ evs, psR gP 4096 65536 65535 (Xq (QG 4096) (QH 65536) (QI 65535) (QF (QG 4096) (QH 65536) (QI 65535) (idP hd ((r * own1.length : Nat) : Int) ((r * L.length : Nat) : Int)) (own1.take i)).1 own1[i]).1, QD gS [.slice aL es.length cL, .slice aI (X9 es).length cI, .int .i64 s1.e, .int .i64 A1, .int .i64 s1.told] 33, own 53 7 aL cL es.length (lE.flatMap (fun r => eaC r.1 r.2.1 r.2.2)), Zc (lE.map (fun r => own 92 1 r.2.1 r.2.2 (Zk r.1).length (XG (Zk r.1)))), own 5 1 ao co own1.length (XY own1), A0]) (by repeat' constructor)) ?_
     refine WpL.ent (evO_rc (by rw [hev]; exact psPut_ok2 _ _ _ _ _)) ?_
     refine WpL.exs Take1.here fun pv => ?_
     refine WpL.pur Take1.here fun hv => ?_
     obtain ⟨aE, cE⟩ := pv
     dsimp only at hv
     subst hv
     refine Qd rfl rfl (WpL.nil (Qb (Qa (Qd rfl rfl (WpL.nil (Wp.block ?_))))))
     refine Wp.exs Take1.here fun lV => ?_
     refine Wp.pur Take1.here fun hlVe => ?_
     refine Wp.loopD (σ := Nat) (fun j => j ≤ evs.length) [4, 11, 14, 48, 49, 50, 51, 52, 53, 54, 55, 56, 57, 58, 59, 60, 61, 62, 63, 64, 65, 66, 67, 68, 69, 70, 71] (fun j => [(14, .int .i64 (j : Int)), (11, .int .i64 ((((QF (QG 4096) (QH 65536) (QI 65535) (idP hd ((r * own1.length : Nat) : Int) ((r * L.length : Nat) : Int)) (own1.take i)).2.length + j) : Nat) : Int))]) (fun j => [own 51 6 aE cE evs.length (lV.flatMap (fun r : Evt × Option Addr × Nat => evC2 r.1 r.2.1 r.2.2)), Zc (lV.map fun r => own 92 1 r.2.1 r.2.2 r.1.row.length (XG r.1.row)), psR gP 4096 65536 65535 (Xq (QG 4096) (QH 65536) (QI 65535) (QF (QG 4096) (QH 65536) (QI 65535) (idP hd ((r * own1.length : Nat) : Int) ((r * L.length : Nat) : Int)) (own1.take i)).1 own1[i]).1, QD gS [.slice aL es.length cL, .slice aI (X9 es).length cI, .int .i64 s1.e, .int .i64 A1, .int .i64 s1.told] 33, own 53 7 aL cL es.length (lE.flatMap (fun r => eaC r.1 r.2.1 r.2.2)), Zc (lE.map (fun r => own 92 1 r.2.1 r.2.2 (Zk r.1).length (XG (Zk r.1)))), own 5 1 ao co own1.length (XY own1), A0]) (fun j => evs.length - j) 0 ?_ (FrLe.cons rfl (FrLe.cons rfl FrLe.nil)) ?_ ?_
     ·exact Nat.zero_le _
     ·exact Ent.refl _
     ·intro j hj
      refine Qb (Qb (Qa (Qc rfl rfl (Qc rfl rfl (QO rfl rfl (Xc rfl rfl rfl (WpL.nil (Qh rfl (fun h6 => ?_) (fun h6 => ?_)))))))))
      ·have hjE : j < evs.length := by omega
       obtain ⟨hne, hat⟩ := tw_at hes hlt hev hjE
       have hlV : j < lV.length := by rw [← hlVe, List.length_map] at hjE; exact hjE
       have hlE : ((QF (QG 4096) (QH 65536) (QI 65535) (idP hd ((r * own1.length : Nat) : Int) ((r * L.length : Nat) : Int)) (own1.take i)).2.length + j) < lE.length := by have q := congrArg List.length hlEe; rw [List.length_map] at q; omega
       have e1 := map_fst hlVe hlV hjE
       have e2 := map_fst hlEe hlE hne
       have e3 : lE[((QF (QG 4096) (QH 65536) (QI 65535) (idP hd ((r * own1.length : Nat) : Int) ((r * L.length : Nat) : Int)) (own1.take i)).2.length + j)].1.1 = lV[j].1 := by rw [e2, hat, e1]
       have hAV : RdsL [own 51 6 aE cE evs.length (lV.flatMap (fun r : Evt × Option Addr × Nat => evC2 r.1 r.2.1 r.2.2))] aE (lV.flatMap (fun r : Evt × Option Addr × Nat => evC2 r.1 r.2.1 r.2.2)) := Q4
       have hAE : RdsL [own 53 7 aL cL es.length (lE.flatMap (fun r => eaC r.1 r.2.1 r.2.2))] aL (lE.flatMap (fun r => eaC r.1 r.2.1 r.2.2)) := Q4
       have hnV : lV.flatMap (fun r : Evt × Option Addr × Nat => evC2 r.1 r.2.1 r.2.2) ≠ [] := fun q => by have := Y7 (s := 6) (f := fun r : Evt × Option Addr × Nat => evC2 r.1 r.2.1 r.2.2) (fun _ => rfl) lV j hlV; rw [q] at this; simp [evC2] at this
       have hnE : lE.flatMap (fun r => eaC r.1 r.2.1 r.2.2) ≠ [] := fun q => by have := Y7 (s := 7) (f := fun r => eaC r.1 r.2.1 r.2.2) (fun _ => rfl) lE _ hlE; rw [q] at this; simp [eaC] at this
       refine Wp.ownMax (Ent.trans (Take.ent' (pre := [Zc (lE.map (fun r => own 92 1 r.2.1 r.2.2 (Zk r.1).length (XG (Zk r.1))))]) (by repeat' constructor)) (many_mem (List.mem_map_of_mem (List.getElem_mem hlE)))) (fun hrl2 => ?_)
       rw [show Zk lE[((QF (QG 4096) (QH 65536) (QI 65535) (idP hd ((r * own1.length : Nat) : Int) ((r * L.length : Nat) : Int)) (own1.take i)).2.length + j)].1 = lE[((QF (QG 4096) (QH 65536) (QI 65535) (idP hd ((r * own1.length : Nat) : Int) ((r * L.length : Nat) : Int)) (own1.take i)).2.length + j)].1.1.row from rfl] at hrl2
       refine Wp.skip (Qb (Wp.block ?_))
       refine Qb (Qb (Qa (Qc rfl rfl (Qj (o2 := 0) rfl rfl rfl (Qm rfl rfl (by rfl) ?_)))))
       refine QO rfl rfl (s_ge rfl rfl rfl (WpL.nil (QA rfl (by omega) ?_)))
       refine Wp.skip (Qb (Qb ?_))
       apply Q3 mixed [⟨59, _, []⟩, ⟨60, _, []⟩, ⟨61, _, [0, 1]⟩, ⟨62, _, [2]⟩, ⟨63, _, []⟩, ⟨64, _, [4]⟩, ⟨65, _, []⟩, ⟨66, _, [5, 6]⟩, ⟨67, _, [7]⟩, ⟨68, _, [3, 8]⟩, ⟨69, _, [9]⟩] rfl
       ·refine AllObs.mk ?_ ?_
        ·exact Qc rfl rfl (Qn rfl)
        refine AllObs.mk ?_ ?_
        ·exact Qc rfl rfl (Qn rfl)
        refine AllObs.mk ?_ ?_
        ·refine s_ixR (s := 6) j rfl rfl rfl hAV (by exact Take.ent' (by repeat' constructor)) rfl (by omega) hnV ?_
         exact Qn rfl
        refine AllObs.mk ?_ ?_
        ·refine s_ldaX (vs := evC2 lV[j].1 lV[j].2.1 lV[j].2.2) rfl rfl hAV (by exact Take.ent' (by repeat' constructor)) hnV rfl (Y7 (s := 6) (f := fun r : Evt × Option Addr × Nat => evC2 r.1 r.2.1 r.2.2) (fun _ => rfl) lV j hlV) ?_
         rw [← e3]
         exact Qn rfl
        refine AllObs.mk ?_ ?_
        ·exact Qj (o2 := 0) rfl rfl rfl (Qn rfl)
        refine AllObs.mk ?_ ?_
        ·refine Qm rfl rfl (by rfl) ?_
         exact Qn rfl
        refine AllObs.mk ?_ ?_
        ·exact Qc rfl rfl (Qn rfl)
        refine AllObs.mk ?_ ?_
        ·refine s_ixR (s := 7) ((QF (QG 4096) (QH 65536) (QI 65535) (idP hd ((r * own1.length : Nat) : Int) ((r * L.length : Nat) : Int)) (own1.take i)).2.length + j) rfl rfl rfl hAE (by exact Take.ent' (by repeat' constructor)) rfl (by omega) hnE ?_
         exact Qn rfl
        refine AllObs.mk ?_ ?_
        ·refine s_ldaX (vs := eaC lE[((QF (QG 4096) (QH 65536) (QI 65535) (idP hd ((r * own1.length : Nat) : Int) ((r * L.length : Nat) : Int)) (own1.take i)).2.length + j)].1 lE[((QF (QG 4096) (QH 65536) (QI 65535) (idP hd ((r * own1.length : Nat) : Int) ((r * L.length : Nat) : Int)) (own1.take i)).2.length + j)].2.1 lE[((QF (QG 4096) (QH 65536) (QI 65535) (idP hd ((r * own1.length : Nat) : Int) ((r * L.length : Nat) : Int)) (own1.take i)).2.length + j)].2.2) rfl rfl hAE (by exact Take.ent' (by repeat' constructor)) hnE rfl (Y7 (s := 7) (f := fun r => eaC r.1 r.2.1 r.2.2) (fun _ => rfl) lE ((QF (QG 4096) (QH 65536) (QI 65535) (idP hd ((r * own1.length : Nat) : Int) ((r * L.length : Nat) : Int)) (own1.take i)).2.length + j) hlE) ?_
         exact Qn rfl
        refine AllObs.mk ?_ ?_
        ·refine Qk rfl rfl (by repeat' constructor) (like_spec [Zc (lV.map fun r => own 92 1 r.2.1 r.2.2 r.1.row.length (XG r.1.row)), Zc (lE.map (fun r => own 92 1 r.2.1 r.2.2 (Zk r.1).length (XG (Zk r.1))))] lV[j].2.1 lV[j].2.2 lE[((QF (QG 4096) (QH 65536) (QI 65535) (idP hd ((r * own1.length : Nat) : Int) ((r * L.length : Nat) : Int)) (own1.take i)).2.length + j)].1 lE[((QF (QG 4096) (QH 65536) (QI 65535) (idP hd ((r * own1.length : Nat) : Int) ((r * L.length : Nat) : Int)) (own1.take i)).2.length + j)].2.1 lE[((QF (QG 4096) (QH 65536) (QI 65535) (idP hd ((r * own1.length : Nat) : Int) ((r * L.length : Nat) : Int)) (own1.take i)).2.length + j)].2.2 (by rw [e3]; exact (rc_row (row := Evt.row) (List.getElem_mem hlV)).head) (rc_row (row := Zk) (List.getElem_mem hlE)).tail hrl2) ?_
         rintro _ _ ⟨rfl, rfl⟩
         simp only [Qv]
         exact WpL.nil ⟨rfl, rfl, rfl, by exact Take.ent' (by repeat' constructor)⟩
        refine AllObs.mk ?_ ?_
        ·exact ZR rfl rfl (Qn rfl)
        exact AllObs.nil
       ·refine QS rfl (Wp.skip (Qa (Qc rfl rfl (Qx rfl rfl rfl (Qp (by omega) (by omega)) ?_))))
        refine Qd rfl rfl (WpL.nil (Qa (Qc rfl rfl (Qx rfl rfl rfl (Qp (by omega) (by omega)) ?_))))
        refine Qd rfl rfl (WpL.nil (Qq (j + 1) ?_ ?_ (by ((repeat (first | exact Top.refl | refine Top.push rfl ?_)); done)) (FrLe.cons rfl (FrLe.cons (by exact congrArg (fun z => some (Value.int .i64 z)) (by push_cast; omega)) FrLe.nil)) ?_))
        ·omega
        ·omega
        ·exact Ent.refl _
      ·obtain rfl : j = evs.length := by omega
       refine QV (Qa (Qc rfl rfl (Qx rfl rfl rfl (Qp (by omega) (by omega)) ?_)))
       refine Qd rfl rfl (WpL.nil (Qq (i + 1) ?_ ?_ (by ((repeat (first | exact Top.refl | refine Top.push rfl ?_)); done)) (FrLe.cons rfl (FrLe.cons (by exact congrArg (fun z => some (Value.int .i64 z)) (by rw [tw_step _ _ _ _ hlt]; simp only [List.length_append, List.length_map, hev])) FrLe.nil)) ?_))
       ·omega
       ·omega
       ·rw [tw_step _ _ _ _ hlt]
        exact Take.ent' (by repeat' constructor)
    ·obtain rfl : i = own1.length := by omega
     obtain ⟨hd', es', hde, -, hjr⟩ := hjrun hd ((r * own1.length : Nat) : Int) ((r * L.length : Nat) : Int) hhd
     have htl := tw_len (hd := hd) (t := ((r * own1.length : Nat) : Int)) (n := ((r * L.length : Nat) : Int)) hes
     have hpm : ((r : Int) + 1) * (L.length : Int) = ((r * L.length + L.length : Nat) : Int) := by push_cast; rw [Int.add_mul, Int.one_mul]
     refine QV (Qb (Qa (Qc rfl rfl (Qj (o2 := 0) rfl rfl rfl (Qm rfl rfl (by rfl) ?_)))))
     refine QO rfl rfl (Xu rfl rfl rfl (Qc rfl rfl (QM (dj := 77) rfl (decide_eq_false (fun h => h (by rw [List.take_length, htl]))) ?_)))
     refine Qf rfl rfl (Qc rfl rfl (Qf rfl rfl (Qk rfl rfl (by repeat' constructor) (psImages_rep gP 4096 65536 65535 _) ?_)))
     rintro _ _ ⟨rfl, rfl⟩
     simp only [Qv]
     refine Qf rfl rfl (Qc rfl rfl (Qf rfl rfl (Qx rfl rfl rfl (Qp (by omega) (by omega)) ?_)))
     refine Qf rfl rfl (Qc rfl rfl (Qf rfl rfl (QO rfl rfl (Qf rfl rfl (XQ rfl rfl rfl (Qp (by rw [hpm]; omega) (by rw [hpm]; omega)) ?_)))))
     refine Qf rfl rfl (Xu rfl rfl rfl (Qu rfl rfl rfl (WpL.nil (QA rfl (fun h => h (by rw [List.take_length, hjr, hpm]; dsimp only; push_cast; omega)) ?_))))
     refine Wp.skip (Qa (Qc rfl rfl (Qx rfl rfl rfl (Qp (by omega) (by omega)) ?_)))
     refine Qd rfl rfl (WpL.nil (Qq (⟨r + 1, hd'⟩ : TwX) ?_ ?_ (by ((repeat (first | exact Top.refl | refine Top.push rfl ?_)); done)) (by repeat (first | exact FrLe.nil | refine FrLe.cons rfl ?_)) ?_))
     ·exact ⟨by simp only; omega, hde⟩
     ·simp only; omega
     ·rw [List.take_length, hjr]
      dsimp only
      rw [Nat.add_mul, Nat.add_mul, Nat.one_mul, Nat.one_mul]
      push_cast
      exact Ent.refl _
  ·obtain rfl : r = 2 := by omega
   refine QV (Qb (Qa (Qc rfl rfl (Qk rfl rfl (by repeat' constructor) (psEnd_rep gP 4096 65536 65535 _ _ (by omega) (id_I _ _ _ (N := 2 * own1.length + 2 * L.length) hhd (by omega) (by omega))) ?_))))
   rintro _ _ rfl
   simp only [Qv]
   rw [psEnd_ah hhd]
   refine WpL.exs (Take1.there Take1.here) fun pv => ?_
   refine WpL.pur Take1.here fun hv => ?_
   obtain ⟨aE, cE, aR, cR⟩ := pv
   dsimp only at hv
   subst hv
   refine QO rfl rfl (QJ rfl rfl rfl (Qc rfl rfl (QB (dj := 91) rfl (decide_eq_true rfl) ?_)))
   refine Qf rfl rfl (Qc rfl rfl (Qf rfl rfl (Qk rfl rfl (by repeat' constructor) (psTold_rep gP 4096 65536 65535 _) ?_)))
   rintro _ _ ⟨rfl, rfl⟩
   simp only [Qv]
   refine Qf rfl rfl (Qc rfl rfl (Qf rfl rfl (QO rfl rfl (Qf rfl rfl (XQ rfl rfl rfl (Qp (by omega) (by omega)) ?_)))))
   refine Qf rfl rfl (QJ rfl rfl rfl (Qr rfl rfl rfl (Qc rfl rfl (QB (dj := 99) rfl (decide_eq_true (by push_cast; rfl)) ?_))))
   refine Qf rfl rfl (Qk rfl rfl (by repeat' constructor) (llives_spec) ?_)
   rintro _ _ ⟨rfl, rfl⟩
   simp only [Qv]
   refine Qr rfl rfl rfl (Qd rfl rfl (WpL.nil (Qg ?_)))
   apply RetQ.mk
   ·exact (Res.one rfl rfl)
   ·exact ⟨rfl, rfl⟩
   ·exact Take.ent' (by repeat' constructor)

end Go.Proofs.YtggamdlpiejbiaaGreat
