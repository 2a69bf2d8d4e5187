/- Walks and plain laws, a part of the proof of PnmJoins: every input that the law's guards let in, no condition beside. -/
import Derived.Laws.Concat
import Derived.Laws.Strings2
import Derived.Laws.BytesArg
import Derived.Laws.MakeOwn
import Derived.DataElems
import Derived.Laws.CopyRow
import Derived.Test.YtggamdlpiejbiaaGreatM04
namespace Go.Proofs.YtggamdlpiejbiaaGreat
open Go.RowKit Go.Shelf

/-- Slots of ds alone were turned. -/
inductive Top (ds : List Nat) (base : Fr) : Fr → Prop
  | refl : Top ds base base
  | push {t : Nat} {v : Value} {fr : Fr} : inL t ds = true → Top ds base fr → Top ds base ((t, v) :: fr)
  | drop {es : List Nat} {fr : Fr} : (es.all fun t => inL t ds) = true → Top ds base fr → Top ds base (Yt es fr)
  | le {fr : Fr} : FrLe fr base → Top ds base fr
theorem lk_dropK {es : List Nat} : ∀ {fr : Fr} {t : Nat} {v : Value}, lk fr t = some v → t ∉ es → lk (Yt es fr) t = some v
  | [], t, v, h, _ => by simp [lk] at h
  | (k, u) :: fr, t, v, h, hn => by
    simp only [lk] at h
    simp only [Yt]
    cases hb : Nat.beq k t with
    | true =>
      rw [hb] at h
      have := Nat.eq_of_beq_eq_true hb; subst this
      have hi : inL k es = false := by
        cases hx : inL k es
        · rfl
        · exact absurd (inL_eq.1 hx) hn
      rw [hi]; simp only [cond_false, lk, hb]; exact h
    | false =>
      rw [hb] at h
      have ih := lk_dropK (es := es) (fr := fr) h hn
      cases inL k es with
      | true => exact ih
      | false => simp only [cond_false, lk, hb]; exact ih
theorem Top.lk {ds : List Nat} {base fr : Fr} (h : Top ds base fr) {t : Nat} {v : Value} (hl : Go.Proofs.YtggamdlpiejbiaaGreat.lk base t = some v) (hn : t ∉ ds) : Go.Proofs.YtggamdlpiejbiaaGreat.lk fr t = some v := by
  induction h with
  | refl => exact hl
  | push hi _ ih =>
    rename_i k u fr' _
    simp only [Go.Proofs.YtggamdlpiejbiaaGreat.lk]
    cases hb : Nat.beq k t with
    | true => have := Nat.eq_of_beq_eq_true hb; subst this; exact absurd (inL_eq.1 hi) hn
    | false => exact ih
  | drop he _ ih => exact lk_dropK ih fun hm => hn (inL_eq.1 (List.all_eq_true.1 he t hm))
  | le h => exact h.lk t v hl
theorem lk_append {gr hr : Fr} {t : Nat} {v : Value} (h : lk (gr ++ hr) t = some v) : lk gr t = some v ∨ lk hr t = some v := by
  induction gr with
  | nil => exact .inr h
  | cons p gr ih =>
    obtain ⟨k, u⟩ := p
    simp only [List.cons_append, lk] at h ⊢
    cases hb : Nat.beq k t with
    | true => rw [hb] at h; exact .inl h
    | false => rw [hb] at h; exact ih h

section
variable {P : Program} {n : Cx} {D : List Deferred} {ops : Array Oper} {rest : List Oper} {Q : Post} {fr gr : Fr} {l m : List HP} {ty : Nat} {pos : String} {aft : Array Edge}

def loopD {σ : Type} (D0 : List Deferred) (I : σ → Prop) (ds : List Nat) (G : σ → Fr) (base : Fr) (L : σ → List HP) (μ : σ → Nat) (x : σ) (Q : Post) : Post
  | .normal, D, fr, l => D = D0 ∧ ∃ y, I y ∧ μ y < μ x ∧ Top ds base fr ∧ FrLe fr (G y) ∧ Ent l (L y)
  | e, D, fr, l => Q e D fr l
theorem Qv {σ : Type} {I : σ → Prop} {ds : List Nat} {G : σ → Fr} {base : Fr} {L : σ → List HP} {μ : σ → Nat} {x : σ} (y : σ) (hI : I y) (hm : μ y < μ x) (ht : Top ds base fr) (hf : FrLe fr (G y)) (he : Ent l (L y)) : loopD D I ds G base L μ x Q .normal D fr l := ⟨rfl, y, hI, hm, ht, hf, he⟩
/-- ds: the slots that the loop writes; G: what is known of these at a round's head. -/
theorem Wp.loopD {σ : Type} (I : σ → Prop) (ds : List Nat) (G : σ → Fr) (L : σ → List HP) (μ : σ → Nat) (x0 : σ) (h0 : I x0) (hf : FrLe fr (G x0)) (hl : Ent l (L x0)) {c : Code}
    (body : ∀ x, I x → Wp P n D c (Go.Proofs.YtggamdlpiejbiaaGreat.loopD D I ds G (Yt ds fr) L μ x Q) (G x ++ Yt ds fr) (L x)) : Wp P n D (.loop c) Q fr l := by
  intro a w U hh hs
  have hG : ∀ (fr' : Fr) (y : σ) (a' : Act), Holds n D a' fr' → Top ds (Yt ds fr) fr' → FrLe fr' (G y) → Holds n D a' (G y ++ Yt ds fr) := by
    intro fr' y a' hh' ht hy
    refine ⟨hh'.1, hh'.2.1, fun t v hv => hh'.2.2 t v ?_⟩
    rcases lk_append hv with hv | hv
    · exact hy.lk t v hv
    · exact ht.lk hv (Y2 hv).2
  have h00 : Holds n D a (G x0 ++ Yt ds fr) := by
    refine ⟨hh.1, hh.2.1, fun t v hv => hh.2.2 t v ?_⟩
    rcases lk_append hv with hv | hv
    · exact hf.lk t v hv
    · exact (Y2 hv).1
  refine wpIn_loop_ghost (fun k a' w' => ∃ x, I x ∧ μ x = k ∧ Holds n D a' (G x ++ Yt ds fr) ∧ Out (L x) U w w') (μ x0) ⟨x0, h0, rfl, h00, (Out.refl hs).ent hl⟩ ?_
  rintro k a1 w1 ⟨x, hx, rfl, hh1, ho⟩
  refine Go.wpIn_mono (body x hx a1 w1 (Grow U w) hh1 ho.1) ?_
  rintro e a2 w2 ⟨D2, fr2, l2, q, hh2, ho2⟩
  cases e with
  | normal =>
    obtain ⟨rfl, y, hy, hlt, ht, hf2, he2⟩ := q
    exact ⟨μ y, hlt, y, hy, rfl, hG fr2 y a2 hh2 ht hf2, (ho.then ho2).ent he2⟩
  | _ => exact ⟨D2, fr2, l2, q, hh2, ho.then ho2⟩
/-- Ways that meet again: of the slots ds nothing is known then. -/
def cutK (D : List Deferred) (R : Prop) (ds : List Nat) (fr : Fr) (l : List HP) : List Deferred → Fr → List HP → Prop := fun D' fr' l' => D' = D ∧ R ∧ Top ds fr fr' ∧ Ent l' l
theorem ZN {R : Prop} {ds : List Nat} {fr0 : Fr} {l0 : List HP} (hR : R) (ht : Top ds fr0 fr) (he : Ent l l0) : thn (cutK D R ds fr0 l0) Q .normal D fr l := ⟨rfl, hR, ht, he⟩
theorem Wp.cut {x y : Code} (R : Prop) (ds : List Nat) (h : Wp P n D x (thn (cutK D R ds fr l) Q) fr l) (k : R → Wp P n D y Q (Yt ds fr) l) : Wp P n D (.seq x y) Q fr l := by
  refine Qb (h.mono fun e D' fr' l' q => ?_)
  cases e with
  | normal =>
    obtain ⟨rfl, hR, ht, he⟩ := q
    intro a w U hh hs
    refine k hR a w U ⟨hh.1, hh.2.1, fun t v hv => hh.2.2 t v ?_⟩ (he w U hs)
    obtain ⟨h1, h2⟩ := Y2 hv
    exact ht.lk h1 h2
  | _ => exact q
theorem map_at {α : Type} (f : α → Value) (xs : List α) {k : Nat} (h : k < xs.length) : (xs.map f)[k]? = some (f (xs[k]'h)) := by
  rw [List.getElem?_map, List.getElem?_eq_getElem h]; rfl
end

def QY (xs : List Int) : List Value := xs.map (Value.int .i64)
def Xp (xs : List Int) : List Value := xs.map (Value.int .u64)
def Xr (xs : List Int) : List Value := xs.map (Value.int .u8)
theorem QT (xs : List Int) : (QY xs).length = xs.length := List.length_map _
theorem X1 (xs : List Int) : (Xp xs).length = xs.length := List.length_map _
theorem Xa (xs : List Int) : (Xr xs).length = xs.length := List.length_map _
theorem lens : (∀ xs : List Int, (QY xs).length = xs.length) ∧ (∀ xs : List Int, (Xp xs).length = xs.length) ∧ ∀ xs : List Int, (Xr xs).length = xs.length := ⟨QT, X1, Xa⟩
theorem ints_one (xs : List Int) : ∀ u ∈ QY xs, u.oneCell' = true := by intro u hu; obtain ⟨x, _, rfl⟩ := List.mem_map.1 hu; rfl
theorem pxs_one (xs : List Int) : ∀ u ∈ Xp xs, u.oneCell' = true := by intro u hu; obtain ⟨x, _, rfl⟩ := List.mem_map.1 hu; rfl
theorem YM (xs : List Int) : ∀ u ∈ Xr xs, u.oneCell' = true := by intro u hu; obtain ⟨x, _, rfl⟩ := List.mem_map.1 hu; rfl
theorem Yz (xs : List Int) (x : Int) : QY xs ++ [.int .i64 x] = QY (xs ++ [x]) := by simp [QY]
theorem pxs_snoc (xs : List Int) (x : Int) : Xp xs ++ [.int .u64 x] = Xp (xs ++ [x]) := by simp [Xp]
theorem YJ (xs : List Int) (x : Int) : Xr xs ++ [.int .u8 x] = Xr (xs ++ [x]) := by simp [Xr]
theorem ints_app (xs ys : List Int) : QY xs ++ QY ys = QY (xs ++ ys) := by simp [QY]
theorem pxs_app (xs ys : List Int) : Xp xs ++ Xp ys = Xp (xs ++ ys) := by simp [Xp]
theorem Xi (xs : List Int) {k : Nat} (h : k < xs.length) : (QY xs)[k]? = some (.int .i64 (xs[k]'h)) := map_at _ xs h
theorem YP (xs : List Int) {k : Nat} (h : k < xs.length) : (Xp xs)[k]? = some (.int .u64 (xs[k]'h)) := map_at _ xs h
theorem Zn (xs : List Int) {k : Nat} (h : k < xs.length) : (Xr xs)[k]? = some (.int .u8 (xs[k]'h)) := map_at _ xs h
/-- A text's bytes. -/
def Xh (s : ByteArray) : List Int := s.data.toList.map fun b => (b.toNat : Int)
theorem XS (s : ByteArray) : (Xh s).length = s.size := by simp [Xh]
theorem bsOf_at {s : ByteArray} {k : Nat} (h : k < s.size) : (Xh s)[k]'(by rw [XS]; exact h) = ((s[k]'h).toNat : Int) := by simp [Xh]; rfl
def emp : HP where
  p _ S := ∀ b, ¬ S b
  loc := fun h _ _ => h
  lt := fun h b hb => absurd hb (h b)
theorem Yy {l m : List HP} (h : Ent l m) : Ent l (emp :: m) := fun w U x => ⟨fun _ => False, fun _ h => h, fun _ h => h.elim, (h w U x).mono fun _ hb => ⟨hb, fun x => x⟩⟩
end Go.Proofs.YtggamdlpiejbiaaGreat
namespace Go.Proofs.YtggamdlpiejbiaaGreat
open Go.RowKit Go.Shelf
section
variable {P : Program} {n : Cx} {D : List Deferred} {ops : Array Oper} {rest : List Oper} {Q : Post} {fr : Fr} {l : List HP} {ty : Nat} {pos : String} {aft : Array Edge}
theorem Yo {d T T2 : Nat} {x y : Operand} {a b : ByteArray} (hd : Nat.blt d n = true) (hx : ev fr x = some (.string a)) (hy : ev fr y = some (.string b)) (hs : a.size + b.size ≤ 9223372036854775807)
    (k : WpL P n D ops rest Q ((d, .string (a ++ b)) :: fr) l) : WpL P n D ops (⟨some d, .binOp .add T x y T2, ty, pos, aft, none⟩ :: rest) Q fr l :=
  WpL.val hd (fun A w _ hh _ => by
    have := run_string_add_sum (P := P) (w := w) a b hs
    simp [execOp, hh.ev hx, hh.ev hy, eqGuard, binOp, this]) k
theorem s_b2s {d T1 T2 e g c m T3 : Nat} {x : Operand} {xs : List Int} (hd : Nat.blt d n = true) (h1 : P.underlying T1 = some (.slice e)) (h2 : P.underlying e = some (.int .u8)) (h3 : P.underlying T2 = some .string) (hx : ev fr x = some (.slice (some ⟨g, 0, none⟩) m c)) [hb : HasBlk l g (Xr xs) T3] (hm : xs.length = m)
    (k : WpL P n D ops rest Q ((d, .string (strOfNums xs)) :: fr) l) : WpL P n D ops (⟨some d, .convert T1 T2 x, ty, pos, aft, none⟩ :: rest) Q fr l :=
  WpL.val hd (fun A w U hh hs => by
    have hg := hb.sat hs
    have := run_convert_bytes_arg (P := P) w T1 e h1 h2 g 0 m c xs hm (fun i hi => by
      rw [Nat.zero_add, cell_of_row w g i _ _ _ hg]
      have hi2 : i < xs.length := by omega
      simp [Xr, List.getElem?_map, List.getD, List.getElem?_eq_getElem hi2]) T2 h3
    simp [execOp, hh.ev hx, this]) k
theorem s_mkF {d t e by_ : Nat} {z : Value} {x : Operand} {i : Int} (hd : Nat.blt d n = true) [ht : SlT P t e 1 by_ z] (hx : ev fr x = some (.int .i64 i)) (h0 : 0 ≤ i) (hb : (by_ : Int) * i ≤ 281474976710656) (h63 : i ≤ 9223372036854775807) (hz : z.cells = #[z])
    (k : ∀ g, WpL P n D ops rest Q ((d, .slice (some ⟨g, 0, none⟩) i.toNat i.toNat) :: fr) (QA g (List.replicate i.toNat z) e :: l)) : WpL P n D ops (⟨some d, .makeSlice t x x, ty, pos, aft, none⟩ :: rest) Q fr l := by
  refine XR hd (fun g => .slice (some ⟨g, 0, none⟩) i.toNat i.toNat) (fun g => QA g (List.replicate i.toNat z) e :: l) (fun a w U hh hs => ⟨w.heap.size, _, ?_, Z3 hs (List.replicate i.toNat z) e⟩) k
  obtain ⟨i0, hi, hz0, hz1, hz2⟩ := info_parts ht.hi
  have h1 := run_make (P := P) w t e i0 z ht.hu hi hz0 .i64 .i64 i i h0 (Int.le_refl _) (by rw [hz2]; exact hb) h63
  have h2 : madeCells z.cells (i.toNat * i0.size) = (List.replicate i.toNat z).toArray := by
    rw [hz1, Nat.mul_one, hz]
    apply Array.ext'
    simp [madeCells, Nat.mod_one, List.map_const']
  rw [h2] at h1
  simp [execOp, hh.ev hx, h1]
instance SameLen.set {cs : List Value} {o : Nat} {v : Value} : SameLen cs (cs.set o v) := ⟨by simp⟩
theorem s_stk {T g o : Nat} {x y : Operand} {cs : List Value} {T2 : Nat} {v : Value} {l' : List HP} [hT : Scal P T] (hx : ev fr x = some (.pointer (some ⟨g, o, none⟩))) (hy : ev fr y = some v) (h1 : v.oneCell' = true)
    [hb : HasBlk l g cs T2] (ho : o < cs.length) [hsb : SetBlk l g (cs.set o v) l'] (k : WpL P n D ops rest Q fr l') : WpL P n D ops (⟨none, .store T x y, ty, pos, aft, none⟩ :: rest) Q fr l :=
  Q3 (hn := ⟨⟨rfl, ho⟩⟩) hx hy h1 k
theorem s_bs6 {d t e by_ : Nat} {z v v2 v3 v4 v5 v6 : Value} {x x2 x3 x4 x5 x6 : Operand} (hd : Nat.blt d n = true) [ht : SlT P t e 1 by_ z] (hx : ev fr x = some v) (hx2 : ev fr x2 = some v2) (hx3 : ev fr x3 = some v3) (hx4 : ev fr x4 = some v4) (hx5 : ev fr x5 = some v5) (hx6 : ev fr x6 = some v6) (hz : z.cells.size = 1)
    (hv : v.cells = #[v]) (hv2 : v2.cells = #[v2]) (hv3 : v3.cells = #[v3]) (hv4 : v4.cells = #[v4]) (hv5 : v5.cells = #[v5]) (hv6 : v6.cells = #[v6])
    (k : ∀ g, WpL P n D ops rest Q ((d, .slice (some ⟨g, 0, none⟩) 6 6) :: fr) (QA g [v, v2, v3, v4, v5, v6] e :: l)) : WpL P n D ops (⟨some d, .buildSlice t 6 #[(0, x), (1, x2), (2, x3), (3, x4), (4, x5), (5, x6)], ty, pos, aft, none⟩ :: rest) Q fr l :=
  s_bs (os := [(0, x), (1, x2), (2, x3), (3, x4), (4, x5), (5, x6)]) [v, v2, v3, v4, v5, v6] hd hz rfl (by simp [hv, hv2, hv3, hv4, hv5, hv6]) (by simp) (fun a hh => by simp [hh.ev hx, hh.ev hx2, hh.ev hx3, hh.ev hx4, hh.ev hx5, hh.ev hx6]) k
theorem str_beq (a b : ByteArray) : (a.toList == b.toList) = decide (a = b) := by
  rw [ByteArray.toList_eq, ByteArray.toList_eq, Bool.eq_iff_iff, beq_iff_eq, decide_eq_true_eq]
  constructor
  · intro h
    apply ByteArray.ext
    exact Array.ext' h
  · rintro rfl; rfl
theorem s_sne {d T T2 : Nat} {x y : Operand} {a b : ByteArray} (hd : Nat.blt d n = true) (hx : ev fr x = some (.string a)) (hy : ev fr y = some (.string b))
    (k : WpL P n D ops rest Q ((d, .bool (decide (a ≠ b))) :: fr) l) : WpL P n D ops (⟨some d, .binOp .neq T x y T2, ty, pos, aft, none⟩ :: rest) Q fr l :=
  WpL.val hd (fun A w _ hh _ => by simp [execOp, hh.ev hx, hh.ev hy, eqGuard, binOp_string_neq, str_beq]) k
theorem bsOf_inj {a b : ByteArray} (h : Xh a = Xh b) : a = b := by
  apply ByteArray.ext
  apply Array.ext'
  unfold Xh at h
  generalize a.data.toList = l at h
  generalize b.data.toList = m at h
  induction l generalizing m with
  | nil => cases m with
    | nil => rfl
    | cons y m => cases h
  | cons x l ih => cases m with
    | nil => cases h
    | cons y m =>
      simp only [List.map_cons, List.cons.injEq] at h
      rw [ih m h.2, UInt8.toNat.inj (by exact_mod_cast h.1 : x.toNat = y.toNat)]
end
end Go.Proofs.YtggamdlpiejbiaaGreat
namespace Go.Proofs.YtggamdlpiejbiaaGreat
open Go.RowKit Go.Shelf

/-- yield, called so, with these parts at hand. -/
def Yld (P : Program) (y : Nat) (args : Array Value) (pre : List HP) (R : Value → List HP → Prop) : Prop :=
  ∀ (w : World) (U : Nat → Prop), Sat w pre U → YieldAt (FR none) 0 P y args w fun e w' => ∃ v l, e = .returned v ∧ R v l ∧ Out l U w w'
/-- What a round answers: on, or no more. -/
def rdR (J Jx : Nat → List HP → Prop) (k : Nat) : Value → List HP → Prop := fun v m => (v = .bool true ∧ J (k + 1) m) ∨ (v = .bool false ∧ Jx k m)
/-- An iterator that tells xs: whatever the rounds keep. -/
def Iter {α : Type} (P : Program) (gf : Nat) (lb : List Value) (encs : α → List Value) (xs : List α) (QG own' : List HP) : Prop :=
  ∀ (y : Nat) (J Jx : Nat → List HP → Prop), (∀ k (h : k < xs.length) m, J k m → Yld P y (encs xs[k]).toArray m (rdR J Jx k)) →
    ∀ m, J 0 m → Fn P gf (.func (.yield y) #[] #[] :: lb).toArray (QG ++ m) (fun _ l => ∃ m', (J xs.length m' ∨ ∃ k, k < xs.length ∧ Jx k m') ∧ l = own' ++ m')

theorem Take.app {m F : List HP} : ∀ {l : List HP}, l = m ++ F → Take l m F := by
  induction m with
  | nil => rintro l rfl; exact .nil
  | cons A m ih => rintro l rfl; exact .cons .here (ih rfl)
theorem ZH (A : HP) : ∀ (l : List HP), Take1 (l ++ [A]) A l
  | [] => .here
  | _ :: l => .there (ZH A l)
theorem Take.skip {A : HP} {l pre F : List HP} (h : Take l pre F) : Take (A :: l) pre (A :: F) := by
  induction h generalizing A with
  | nil => exact .nil
  | cons h1 _ ih => exact .cons (.there h1) ih

theorem Take.all {m : List HP} : Take m m [] := Take.app (by simp)
theorem Ent.comm {l m : List HP} : Ent (l ++ m) (m ++ l) := fun w U h => by
  obtain ⟨V, hV, h1, h2⟩ := h.split
  refine Sat.join (V := fun b => U b ∧ ¬ V b) h2 (fun b hb => hb.1) (h1.mono fun b hb => ⟨(hV b hb).1, fun x => x.2 hb⟩)
section
variable {P : Program} {n : Cx} {D : List Deferred} {ops : Array Oper} {rest : List Oper} {Q : Post} {fr gr : Fr} {l m : List HP} {ty : Nat} {pos : String} {aft : Array Edge}

theorem roundIn_FR {ro : Option Nat} {k y f : Nat} {tmps : Array Value} {x b : Code} {w : World} {R : Ending → World → Prop} (h : RoundIn (FR none) k P y f tmps x b w R) : RoundIn (FR ro) k P y f tmps x b w R := by
  cases ro with
  | none => exact h
  | some l => exact h
theorem s_yield {d y : Nat} {fo : Operand} {xs : List Operand} {vs u c : List Value} {at_ : Array Nat} {pre F : List HP} {R : Value → List HP → Prop} (hd : Nat.blt d n = true)
    (hf : ev fr fo = some (.func (.yield y) u.toArray c.toArray)) (hu : u = []) (hx : evs fr xs = some vs) (ht : Take l pre F) (h : Yld P y vs.toArray pre R)
    (k : ∀ v m, R v m → WpL P n D ops rest Q ((d, v) :: fr) (F ++ m)) : WpL P n D ops (⟨some d, .call ⟨.value fo, xs.toArray, at_⟩, ty, pos, aft, none⟩ :: rest) Q fr l := by
  intro a w U hh hs
  subst hu
  obtain ⟨V, hV, hfr⟩ := Out.frame (F := F) (ht.ent w U hs)
  obtain ⟨fn, tmps, asg, body, hy, hr⟩ := h w V hV
  refine wpListIn_plain rfl fun K hK => ?_
  unfold Oper.wpIn
  have e1 := hh.ev hf
  have e2 := X6 hh xs vs hx
  have he : (execOp a.eval ⟨some d, .call ⟨.value fo, xs.toArray, at_⟩, ty, pos, aft, none⟩).run P w = .ok (.round y fn tmps asg body) w := by
    simp only [execOp, resolve, Deferred.ofValue, invoke, Sem.run_bind, e1, Sem.run_pure, Result.andThen_ok, List.map_toArray, e2]
    simpa using hy
  rw [ZR he (fun _ e => nomatch e)]
  refine ⟨fun _ _ => trivial, fun h => (by simp [Fence.wide] at h), roundIn_FR (RoundIn.mono hr ?_)⟩
  rintro e w' ⟨v, m, rfl, r, ho⟩
  exact hK _ _ ((k v m r).go (hh.put hd v) ((hfr m w' ho).ent Ent.comm))

/-- The slots of a round: the parameters ahead of those that were. -/
def parms : List Nat → List Value → Fr → Fr
  | p :: ps, v :: vs, fr => parms ps vs ((p, v) :: fr)
  | _, _, fr => fr
theorem parms_holds {y : Option Nat} : ∀ (ps : List Nat) (vs : List Value) (t : Array Value) (fr : Fr), Holds ⟨n.n, y⟩ [] { tmps := t, defers := [] } fr → (ps.all fun p => Nat.blt p n.n) = true →
    Holds ⟨n.n, y⟩ [] { tmps := (ps.zip vs).foldl (fun t (p, v) => t.setIfInBounds p v) t, defers := [] } (parms ps vs fr)
  | [], _, _, _, h, _ => h
  | _ :: _, [], _, _, h, _ => by simpa [parms] using h
  | p :: ps, v :: vs, t, fr, h, hp => by
    simp only [List.all_cons, Bool.and_eq_true] at hp
    simp only [List.zip_cons_cons, List.foldl_cons, parms]
    exact parms_holds ps vs _ _ (h.put (n := ⟨n.n, y⟩) hp.1 v) hp.2

/-- What a round's body hands on. -/
def rndQ (I : Nat → List HP → Prop) (Ix : Code → Nat → List HP → Prop) (k : Nat) : Post
  | .normal, _, _, l => ∃ m, I (k + 1) m ∧ Ent l m
  | .ret, _, _, l => ∃ m, Ix .ret k m ∧ Ent l m
  | .exit id, _, _, l => ∃ m, Ix (.exit id) k m ∧ Ent l m
  | _, _, _, _ => False
def asgQ (R : Fr → List HP → Prop) : Post := fun e D fr l => e = .normal ∧ D = [] ∧ R fr l

theorem Wp.rangeF {α : Type} {g : Operand} {ps : List Nat} {asg body : Code} {gf : Nat} {lb : List Value} {encs : α → List Value} {xs : List α} {QG own' m0 : List HP} (hn : n.ro = none)
    (hg : ev fr g = some (.func (.func gf) #[] lb.toArray)) [he : Ent1 P gf] (hI : Iter P gf lb encs xs QG own') (hps : ∀ x, (encs x).length = ps.length) (hpn : (ps.all fun p => Nat.blt p n.n) = true)
    (I : Nat → List HP → Prop) (Ix : Code → Nat → List HP → Prop) (h0 : I 0 m0) (hl : Ent l (m0 ++ QG))
    (hb : ∀ y k (_ : k < xs.length) m, I k m → Wp P ⟨n.n, some y⟩ [] asg (asgQ fun gr l => Wp P ⟨n.n, some y⟩ [] body (rndQ I Ix k) gr l) (parms ps (encs xs[k]) fr) m)
    (hdone : ∀ q m, I xs.length m → Q .normal (mrk q :: D) fr (dfr q :: (m ++ own')))
    (hstop : ∀ q c k m, k < xs.length → Ix c k m → Wp P n (mrk q :: D) c Q fr (dfr q :: (m ++ own'))) :
    Wp P n D (.rangeFunc g ps.toArray asg body) Q fr l := by
  obtain ⟨nn, ro⟩ := n
  change ro = none at hn
  subst hn
  intro a w U hh hs
  refine wpIn_rangeFunc fun fn hfn => ?_
  obtain ⟨rec, hrec⟩ : ∃ rec : LoopState → Option Code → Loop, rec = fun st pe => { state := st, pending := pe, fn, tmps := a.tmps, params := ps.toArray, assign := asg, body, defers := w.heap.size } := ⟨_, rfl⟩
  obtain ⟨W1, hW1⟩ : ∃ W1, (w.alloc (.deferred (some []))).alloc (.loop (rec .ready none)) = W1 := ⟨_, rfl⟩
  have o1 := ob_new (hl w U hs) (.deferred (some []))
  have o2 := o1.then (ob_new o1.1 (.loop (rec .ready none)))
  rw [World.size_alloc, hW1] at o2
  have o3 : Out ((ob (w.heap.size + 1) (.loop (rec .ready none)) :: m0) ++ (QG ++ [dfr w.heap.size])) U w W1 := by
    refine o2.ent ?_
    refine Ent.cons ?_
    refine (Take.ent (pre := m0 ++ QG) (k := [dfr w.heap.size]) ?_).trans ?_
    · exact Take.skip (Take.app (by simp))
    · simp only [List.append_assoc]; exact Ent.refl _
  refine ⟨w.heap.size + 1, [mrk w.heap.size], W1, { target := .fn (.func gf) lb.toArray, args := #[.func (.yield (w.heap.size + 1)) #[] #[]] }, W1, gf,
    #[.func (.yield (w.heap.size + 1)) #[] #[]] ++ lb.toArray, W1, ?_, ?_, fun _ _ => trivial, ?_, fun h => (by simp [Fence.wide] at h), ?_⟩
  · rw [← hW1, hrec]; exact run_enterLoop_outer _ _ _ _ _
  · have e1 := hh.ev hg
    simp only [resolve, e1]
    simp [Deferred.ofValue, Act.eval]
  · have := he.run (#[.func (.yield (w.heap.size + 1)) #[] #[]] ++ lb.toArray) W1
    simpa [invoke] using this
  · -- the iterator, over what the rounds keep
    obtain ⟨V, hV, hfr⟩ := Out.frame (F := [dfr w.heap.size]) (by have := o3.1; simp only [← List.append_assoc] at this ⊢; exact this)
    have hit := hI (w.heap.size + 1) (fun k m => ∃ mi, I k mi ∧ m = ob (w.heap.size + 1) (.loop (rec .ready none)) :: mi) (fun k m => ∃ c mi, Ix c k mi ∧ m = ob (w.heap.size + 1) (.loop (rec .done (some c))) :: mi)
      ?_ _ ⟨m0, h0, rfl⟩ W1 V (Ent.comm _ _ hV)
    · have hit' := hit
      rw [show ((.func (.yield (w.heap.size + 1)) #[] #[] :: lb).toArray : Array Value) = #[.func (.yield (w.heap.size + 1)) #[] #[]] ++ lb.toArray from by simp] at hit'
      refine callsIn_FR (Calls.mono hit' ?_)
      rintro e W2 ⟨v, l2, rfl, ⟨m', hm', rfl⟩, ho0⟩
      have ho := ho0.ent (Ent.comm (l := own') (m := m'))
      have ho2 := o3.then (hfr _ _ ho)
      rcases hm' with ⟨mi, hi, rfl⟩ | ⟨k, hk, c, mi, hi, rfl⟩
      · have hs2 : Sat W2 (ob (w.heap.size + 1) (.loop (rec .ready none)) :: (mi ++ own' ++ [dfr w.heap.size])) (Grow U w) := by simpa using ho2.1
        have hend := run_endLoop (P := P) (ob_at hs2) (by rw [hrec]; simp)
        refine ⟨_, _, hend, ?_⟩
        have ho3 := ho2.then (ob_put (by simpa using ho2.1) (.loop { rec .ready none with state := .exhausted }))
        rw [hrec]
        refine ⟨_, fr, _, hdone w.heap.size mi hi, ⟨by rw [hh.1]; rfl, hh.2⟩, ?_⟩
        rw [hrec] at ho3
        refine ho3.ent (Ent.drop ?_)
        rw [← List.append_assoc]
        refine (Take.ent (l := mi ++ own' ++ [dfr w.heap.size]) (pre := [dfr w.heap.size]) (k := mi ++ own') (Take.cons ?_ .nil)).trans (Ent.refl _)
        exact ZH _ _
      · have hs2 : Sat W2 (ob (w.heap.size + 1) (.loop (rec .done (some c))) :: (mi ++ own' ++ [dfr w.heap.size])) (Grow U w) := by simpa using ho2.1
        have hend := run_endLoop (P := P) (ob_at hs2) (by rw [hrec]; simp)
        refine ⟨_, _, hend, ?_⟩
        have ho3 := ho2.then (ob_put (by simpa using ho2.1) (.loop { rec .done (some c) with state := .exhausted }))
        rw [hrec] at ho3 ⊢
        have ho4 : Out (dfr w.heap.size :: (mi ++ own')) U w _ := ho3.ent (Ent.drop (by rw [← List.append_assoc]; exact (Take.ent (l := mi ++ own' ++ [dfr w.heap.size]) (pre := [dfr w.heap.size]) (k := mi ++ own') (Take.cons (ZH _ _) .nil)).trans (Ent.refl _)))
        have := hstop w.heap.size c k mi hk hi { a with defers := [mrk w.heap.size] ++ a.defers } _ _ ⟨by rw [hh.1]; rfl, hh.2⟩ ho4.1
        exact Go.wpIn_mono this fun _ _ _ kk => kk.later ho4
    · -- one round
      rintro k hk m ⟨mi, hi, rfl⟩ W V' hs'
      have hy := run_yield (P := P) (args := (encs xs[k]).toArray) (ob_at hs') (by rw [hrec]; simpa using hps _)
      rw [hrec] at hy
      have key : ∀ (t : Array Value) (R : Ending → World → Prop), t = (ps.zip (encs xs[k])).foldl (fun t (p, v) => t.setIfInBounds p v) a.tmps → Code.wpIn (FR (some (w.heap.size + 1))) 0 P asg (Exit.then (fun a₁ w₁ => ∃ w₂, (Instr.beginRound (w.heap.size + 1)).run P w₁ = .ok () w₂ ∧ body.wpIn (FR (some (w.heap.size + 1))) 0 P (roundPost P (w.heap.size + 1) R) a₁ w₂) (fun _ _ _ => False)) { tmps := (ps.zip (encs xs[k])).foldl (fun t (p, v) => t.setIfInBounds p v) a.tmps, defers := [] } W → RoundIn (FR none) 0 P (w.heap.size + 1) fn t asg body W R := by
        rintro t R rfl h
        exact roundIn_of_wpIn (F := FR none) trivial h
      refine ⟨fn, _, asg, body, hy, key _ _ (by simp) ?_⟩
      have hpar : Holds ⟨nn, some (w.heap.size + 1)⟩ [] { tmps := (ps.zip (encs xs[k])).foldl (fun t (p, v) => t.setIfInBounds p v) a.tmps, defers := [] } (parms ps (encs xs[k]) fr) := parms_holds (n := ⟨nn, none⟩) ps _ a.tmps fr ⟨rfl, hh.2⟩ hpn
      obtain ⟨Va, hVa, hfa⟩ := Out.frame (pre := mi) (F := [ob (w.heap.size + 1) (.loop (rec .ready none))]) ((Take.ent (l := ob (w.heap.size + 1) (.loop (rec .ready none)) :: mi) (pre := mi) (k := [ob (w.heap.size + 1) (.loop (rec .ready none))]) (Take.skip (Take.app (by simp)))) W V' hs')
      have hasg := hb (w.heap.size + 1) k hk mi hi _ W Va (by simpa using hpar) hVa
      refine Go.wpIn_mono hasg ?_
      rintro e a1 w1 ⟨D1, fr1, l1, ⟨rfl, rfl, hbody⟩, hh1, ho1⟩
      have hq1 : Out (ob (w.heap.size + 1) (.loop (rec .ready none)) :: l1) V' W w1 := (hfa l1 w1 ho1).ent (Take.ent (l := l1 ++ [ob (w.heap.size + 1) (.loop (rec .ready none))]) (pre := [ob (w.heap.size + 1) (.loop (rec .ready none))]) (k := l1) (Take.cons (ZH _ _) .nil))
      refine ⟨_, run_beginRound (ob_at hq1.1) (by rw [hrec]), ?_⟩
      have hq2 := hq1.then (ob_put hq1.1 (.loop { rec .ready none with state := .busy }))
      obtain ⟨Vb, hVb, hfb⟩ := Out.frame (pre := l1) (F := [ob (w.heap.size + 1) (.loop { rec .ready none with state := .busy })]) ((Take.ent (l := ob (w.heap.size + 1) (.loop { rec .ready none with state := .busy }) :: l1) (pre := l1) (k := [ob (w.heap.size + 1) (.loop { rec .ready none with state := .busy })]) (Take.skip (Take.app (by simp)))) _ _ hq2.1)
      refine Go.wpIn_mono (hbody a1 _ Vb hh1 hVb) ?_
      have fin : ∀ (jump : Option Code) (m2 l2 : List HP) (W3 : World), Ent l2 m2 → Out l2 Vb (w1.putObj (w.heap.size + 1) (.loop { rec .ready none with state := .busy })) W3 →
          ∃ W4, (Instr.endRound (w.heap.size + 1) jump).run P W3 = .ok (.bool jump.isNone) W4 ∧ Out (ob (w.heap.size + 1) (.loop (rec (if jump.isNone then .ready else .done) jump)) :: m2) V' W W4 := by
        intro jump m2 l2 W3 he2 ho3
        have h3 := hq2.then (hfb l2 W3 ho3)
        have h4 : Out (ob (w.heap.size + 1) (.loop { rec .ready none with state := .busy }) :: l2) V' W W3 := h3.ent (Take.ent (pre := [ob (w.heap.size + 1) (.loop { rec .ready none with state := .busy })]) (k := l2) (Take.cons (ZH _ _) .nil))
        refine ⟨_, run_endRound jump (ob_at h4.1), ?_⟩
        have h5 := h4.then (ob_put h4.1 (.loop { rec .ready none with state := if jump.isNone then .ready else .done, pending := jump }))
        have h6 := h5.ent (Ent.cons he2)
        rw [hrec] at h6 ⊢
        exact h6
      rintro e a3 W3 ⟨D3, fr3, l3, q, hh3, ho3⟩
      cases e with
      | normal =>
        obtain ⟨m2, hi2, he2⟩ := q
        obtain ⟨W4, hr, ho4⟩ := fin none m2 l3 W3 he2 ho3
        exact ⟨_, W4, hr, _, _, rfl, .inl ⟨rfl, m2, hi2, rfl⟩, ho4⟩
      | ret =>
        obtain ⟨m2, hi2, he2⟩ := q
        obtain ⟨W4, hr, ho4⟩ := fin (some .ret) m2 l3 W3 he2 ho3
        exact ⟨_, W4, hr, _, _, rfl, .inr ⟨rfl, .ret, m2, hi2, rfl⟩, ho4⟩
      | exit id =>
        obtain ⟨m2, hi2, he2⟩ := q
        obtain ⟨W4, hr, ho4⟩ := fin (some (.exit id)) m2 l3 W3 he2 ho3
        exact ⟨_, W4, hr, _, _, rfl, .inr ⟨rfl, .exit id, m2, hi2, rfl⟩, ho4⟩
      | goto t => exact q.elim
      | panic ch => exact q.elim
      | outgrown => exact q.elim
end
end Go.Proofs.YtggamdlpiejbiaaGreat
namespace Go.Proofs.YtggamdlpiejbiaaGreat
open Go.RowKit Go.Shelf
section
variable {P : Program} {n : Cx} {D : List Deferred} {ops : Array Oper} {rest : List Oper} {Q : Post} {fr : Fr} {l : List HP} {ty : Nat} {pos : String} {aft : Array Edge}

theorem own_put {w : World} {U : Nat → Prop} {T c m g k : Nat} {xs : List Value} {F : List HP} (h : Sat w (QG T 1 (some ⟨g, 0, none⟩) c m xs :: F) U) (v : Value) :
    Out (QG T 1 (some ⟨g, 0, none⟩) c m (xs.set k v) :: F) U w (w.setCell ⟨g, k, none⟩ v) := by
  obtain ⟨V, ⟨S, ⟨hS, hown⟩, hSV, _⟩, hfr⟩ := Out.frame (pre := [QG T 1 (some ⟨g, 0, none⟩) c m xs]) (F := F) h
  refine hfr [QG T 1 (some ⟨g, 0, none⟩) c m (xs.set k v)] _ ⟨⟨S, ⟨hS, ?_⟩, fun b hb => .inl (hSV b hb), trivial⟩, rfl, rfl, rfl, by simp, fun b hb hn => heap_setCell_other w _ b v fun e => hn (hSV b ((hS b).2 ⟨_, rfl, e⟩))⟩
  refine ⟨by rw [List.length_set]; exact hown.1, ?_⟩
  rcases hown.2 with ⟨e, _⟩ | ⟨g', cap, cur, e, hb, hg, h1, h2, h3, h4⟩
  · cases e
  · injection e with e1 e2 e3
    injection e1 with e1
    injection e1 with e1 _ _
    subst e1
    refine .inr ⟨g, cap, cur.setIfInBounds k v, by rw [e3], hb, ?_, h1, h2, by simpa using h3, ?_⟩
    · exact heap_setCell_same w g k cur T v hg
    · rw [Array.toList_setIfInBounds, List.take_set, h4]
/-- An element of a row of one's QG, written. -/
theorem s_sto {T T2 k : Nat} {x y : Operand} {a : Option Addr} {c m : Nat} {xs : List Value} {v : Value} {F : List HP} [hT : Scal P T] (hx : ev fr x = some (.pointer (a.map fun ad => ad.add k))) (hy : ev fr y = some v) (h1 : v.oneCell' = true)
    (htk : Take l [QG T2 1 a c m xs] F) (hk : k < xs.length) (kn : WpL P n D ops rest Q fr (QG T2 1 a c m (xs.set k v) :: F)) : WpL P n D ops (⟨none, .store T x y, ty, pos, aft, none⟩ :: rest) Q fr l := by
  refine WpL.skp (m := QG T2 1 a c m (xs.set k v) :: F) (fun A w U hh hs => ?_) kn
  have h2 := htk.ent w U hs
  have h3 := h2
  obtain ⟨S, hp, _⟩ := h3
  have hne : xs ≠ [] := fun e => by simp [e] at hk
  rcases XM hp with ⟨_, _, _, rfl⟩ | ⟨g, cur, rfl, hg, _, _, h4, _⟩
  · exact absurd rfl hne
  · refine ⟨w.setCell ⟨g, k, none⟩ v, ?_, own_put h2 v⟩
    have hc : w.cell? ⟨g, k, none⟩ = some (xs[k]'hk) := by
      have := Y9 hp rfl k (xs[k]'hk) (List.getElem?_eq_getElem hk)
      simpa [ZY] using this
    have hfz := frozen_of_row w g k _ _ hg
    have hcell : v.cells = #[v] := by cases v <;> simp [Value.oneCell'] at h1 <;> rfl
    have hst := run_store P w ⟨g, k, none⟩ v .plain h1
    rw [hc] at hst
    simp only [hfz] at hst
    have hx' := hh.ev hx
    simp only [Option.map_some, ZY, Nat.zero_add] at hx'
    simp [execOp, hx', hh.ev hy, Instr.storeAt, Instr.sureAddr, storeVar, hcell, hT.size, storeCells, ZY, hst]
theorem s_b2so {d T1 T2 e c m T3 : Nat} {x : Operand} {a : Option Addr} {xs : List Int} {F : List HP} (hd : Nat.blt d n = true) (h1 : P.underlying T1 = some (.slice e)) (h2 : P.underlying e = some (.int .u8)) (h3 : P.underlying T2 = some .string) (hx : ev fr x = some (.slice a m c)) (htk : Take l [QG T3 1 a c m (Xr xs)] F)
    (k : WpL P n D ops rest Q ((d, .string (strOfNums xs)) :: fr) l) : WpL P n D ops (⟨some d, .convert T1 T2 x, ty, pos, aft, none⟩ :: rest) Q fr l :=
  WpL.val hd (fun A w U hh hs => by
    obtain ⟨S, hp, _⟩ := htk.ent' w U hs
    have hl := hp.2.1
    rw [Xa, Nat.mul_one] at hl
    rcases XM hp with ⟨rfl, _, rfl, h5⟩ | ⟨g, cur, rfl, hg, _, _, h4, _⟩
    · have : xs = [] := List.eq_nil_of_length_eq_zero hl
      subst this
      have := run_convert_bytes_nil (P := P) (w := w) T1 e h1 h2 0 c T2 h3
      simp [execOp, hh.ev hx, this]
      rfl
    · have := run_convert_bytes_arg (P := P) w T1 e h1 h2 g 0 m c xs hl (fun i hi => by
        have hi2 : i < xs.length := by omega
        have := Y9 hp rfl i (.int .u8 (xs[i]'hi2)) (Zn xs hi2)
        simpa [ZY, List.getD, List.getElem?_eq_getElem hi2] using this) T2 h3
      simp [execOp, hh.ev hx, this]) k

def sla (a : Option Addr) (L M s : Nat) : Option Addr := if M = L then a else a.map fun ad => ad.add (L * s)
theorem RdsL.sla {As : List HP} {a : Option Addr} {xs : List Value} (h : RdsL As a xs) (L H M s : Nat) (hM : H ≤ M) : RdsL As (Go.Proofs.YtggamdlpiejbiaaGreat.sla a L M s) ((xs.drop (L * s)).take ((H - L) * s)) := by
  unfold Go.Proofs.YtggamdlpiejbiaaGreat.sla
  split
  · rename_i e
    rw [show H - L = 0 by omega, Nat.zero_mul, List.take_zero]
    exact RdsL.nil
  · intro w U hs
    obtain ⟨h1, h2⟩ := h w U hs
    refine ⟨fun hne => ?_, fun ad ha j u hu => ?_⟩
    · rw [Option.isSome_map]
      exact h1 fun e => hne (by simp [e])
    · cases a with
      | none => simp at ha
      | some b =>
        simp only [Option.map_some, Option.some.injEq] at ha
        subst ha
        rw [Addr.add_add]
        rw [List.getElem?_take] at hu
        split at hu
        · rw [List.getElem?_drop] at hu
          exact h2 b rfl _ u hu
        · cases hu
theorem s_sll_h {d t e s by_ m c H : Nat} {z : Value} {x y : Operand} {a : Option Addr} {kk : IntKind} {j : Int} (hd : Nat.blt d n = true) [ht : SlT P t e s by_ z] (hx : ev fr x = some (.slice a m c)) (hy : ev fr y = some (.int kk j)) (hj : j = (H : Int)) (h2 : H ≤ c)
    (k : WpL P n D ops rest Q ((d, .slice a H c) :: fr) l) : WpL P n D ops (⟨some d, .slice t x none (some y) none, ty, pos, aft, none⟩ :: rest) Q fr l :=
  WpL.val hd (fun A w U hh hs => by
    obtain ⟨i0, hi0, hz0, hz1, hz2⟩ := info_parts ht.hi
    subst hj
    simp [execOp, Instr.sliceAt, Instr.slice, Instr.sliceBounds, Instr.sliceBound, hh.ev hx, hh.ev hy, asIntOf, run_underlying ht.hu, sizeOf, typeInfo, hi0, h2, Addr.add]) k
theorem s_sll_l {d t e s by_ m c L : Nat} {z : Value} {x y : Operand} {a : Option Addr} {kk : IntKind} {i : Int} (hd : Nat.blt d n = true) [ht : SlT P t e s by_ z] (hx : ev fr x = some (.slice a m c)) (hy : ev fr y = some (.int kk i)) (hi : i = (L : Int)) (h1 : L ≤ m)
    (k : WpL P n D ops rest Q ((d, .slice (sla a L c s) (m - L) (c - L)) :: fr) l) : WpL P n D ops (⟨some d, .slice t x (some y) none none, ty, pos, aft, none⟩ :: rest) Q fr l :=
  WpL.val hd (fun A w U hh hs => by
    obtain ⟨i0, hi0, hz0, hz1, hz2⟩ := info_parts ht.hi
    subst hi
    simp [execOp, Instr.sliceAt, Instr.slice, Instr.sliceBounds, Instr.sliceBound, hh.ev hx, hh.ev hy, asIntOf, run_underlying ht.hu, sizeOf, typeInfo, hi0, hz1, h1, sla]) k
theorem s_sll_lh {d t e s by_ m c L H : Nat} {z : Value} {x y y2 : Operand} {a : Option Addr} {k1 k2 : IntKind} {i j : Int} (hd : Nat.blt d n = true) [ht : SlT P t e s by_ z] (hx : ev fr x = some (.slice a m c)) (hy : ev fr y = some (.int k1 i)) (hy2 : ev fr y2 = some (.int k2 j)) (hi : i = (L : Int)) (hj : j = (H : Int)) (h1 : L ≤ H) (h2 : H ≤ c)
    (k : WpL P n D ops rest Q ((d, .slice (sla a L c s) (H - L) (c - L)) :: fr) l) : WpL P n D ops (⟨some d, .slice t x (some y) (some y2) none, ty, pos, aft, none⟩ :: rest) Q fr l :=
  WpL.val hd (fun A w U hh hs => by
    obtain ⟨i0, hi0, hz0, hz1, hz2⟩ := info_parts ht.hi
    subst hi; subst hj
    simp [execOp, Instr.sliceAt, Instr.slice, Instr.sliceBounds, Instr.sliceBound, hh.ev hx, hh.ev hy, hh.ev hy2, asIntOf, run_underlying ht.hu, sizeOf, typeInfo, hi0, hz1, h1, h2, sla]) k
theorem s_sll_lhm {d t e s by_ m c L H M : Nat} {z : Value} {x y y2 y3 : Operand} {a : Option Addr} {k1 k2 k3 : IntKind} {i j q : Int} (hd : Nat.blt d n = true) [ht : SlT P t e s by_ z] (hx : ev fr x = some (.slice a m c)) (hy : ev fr y = some (.int k1 i)) (hy2 : ev fr y2 = some (.int k2 j)) (hy3 : ev fr y3 = some (.int k3 q)) (hi : i = (L : Int)) (hj : j = (H : Int)) (hq : q = (M : Int)) (h1 : L ≤ H) (h2 : H ≤ M) (h3 : M ≤ c)
    (k : WpL P n D ops rest Q ((d, .slice (sla a L M s) (H - L) (M - L)) :: fr) l) : WpL P n D ops (⟨some d, .slice t x (some y) (some y2) (some y3), ty, pos, aft, none⟩ :: rest) Q fr l :=
  WpL.val hd (fun A w U hh hs => by
    obtain ⟨i0, hi0, hz0, hz1, hz2⟩ := info_parts ht.hi
    subst hi; subst hj; subst hq
    simp [execOp, Instr.sliceAt, Instr.slice, Instr.sliceBounds, Instr.sliceBound, hh.ev hx, hh.ev hy, hh.ev hy2, hh.ev hy3, asIntOf, run_underlying ht.hu, sizeOf, typeInfo, hi0, hz1, h1, h2, h3, sla]) k

/-- What a row of one's QG tells of itself. -/
theorem ZX {T s c m : Nat} {a : Option Addr} {xs : List Value} {F : List HP} (ht : Take1 l (QG T s a c m xs) F) (k : m ≤ c → WpL P n D ops rest Q fr l) : WpL P n D ops rest Q fr l := fun A w U hh hs => by
  obtain ⟨S, hp, _⟩ := ht.ent w U hs
  rcases XM hp with ⟨_, h1, h2, _⟩ | ⟨g, cur, e, _, hmc, _⟩
  · exact k (by omega) A w U hh hs
  · exact k hmc A w U hh hs
end
end Go.Proofs.YtggamdlpiejbiaaGreat
namespace Go.Proofs.YtggamdlpiejbiaaGreat
open Go.RowKit Go.Shelf
section
variable {P : Program} {n : Cx} {D : List Deferred} {ops : Array Oper} {rest : List Oper} {Q : Post} {fr : Fr} {l : List HP} {ty : Nat} {pos : String} {aft : Array Edge}

theorem Ent.own_blk {g T : Nat} {cs : List Value} {l : List HP} (h : cs.length ≤ 140737488355328) : Ent (QA g cs T :: l) (QG T 1 (some ⟨g, 0, none⟩) cs.length cs.length cs :: l) := by
  rintro w U ⟨S, ⟨hS, hg⟩, hSU, hl⟩
  refine ⟨S, ⟨fun b => (hS b).trans ⟨fun e => ⟨_, rfl, e⟩, fun ⟨ad, e, hb⟩ => ?_⟩, ?_⟩, hSU, hl⟩
  · injection e with e; subst e; exact hb
  · exact ⟨by simp, .inr ⟨g, cs.length, cs.toArray, rfl, Nat.zero_le _, hg, Nat.le_refl _, by unfold maxLen; omega, by simp, by simp⟩⟩
/-- A row that is made: one's QG. -/
theorem s_mko {d t e by_ : Nat} {z : Value} {x : Operand} {i : Int} (N : Nat) (hd : Nat.blt d n = true) [ht : SlT P t e 1 by_ z] (hx : ev fr x = some (.int .i64 i)) (hi : i = (N : Int)) (hb : by_ * N ≤ 140737488355328) (hN : N ≤ 140737488355328) (hz : z.cells = #[z])
    (k : ∀ g, WpL P n D ops rest Q ((d, .slice (some ⟨g, 0, none⟩) N N) :: fr) (QG e 1 (some ⟨g, 0, none⟩) N N (List.replicate N z) :: l)) : WpL P n D ops (⟨some d, .makeSlice t x x, ty, pos, aft, none⟩ :: rest) Q fr l := by
  subst hi
  have hb2 : (by_ : Int) * (N : Int) ≤ 281474976710656 := by
    have h := Int.ofNat_le.2 hb
    rw [Int.natCast_mul] at h
    omega
  refine s_mkF hd hx (by omega) hb2 (by omega) hz (fun g => ?_)
  have h := Ent.own_blk (g := g) (T := e) (cs := List.replicate N z) (l := l) (by rw [List.length_replicate]; exact hN)
  rw [List.length_replicate] at h
  rw [Int.toNat_natCast]
  exact WpL.ent h (k g)
theorem s_ixav {d T len e k : Nat} {x y : Operand} {vs : List Value} {v : Value} {kk : IntKind} {i : Int} (hd : Nat.blt d n = true) [hT : ArT P T len e] [hs : Scal P e] (hx : ev fr x = some (.agg vs.toArray)) (hy : ev fr y = some (.int kk i)) (hi : i = (k : Int)) (hl : k < len) (hv : vs[k]? = some v)
    (kn : WpL P n D ops rest Q ((d, v) :: fr) l) : WpL P n D ops (⟨some d, .index T x y, ty, pos, aft, none⟩ :: rest) Q fr l :=
  WpL.val hd (fun A w _ hh _ => by
    subst hi
    simp [execOp, Instr.index, hh.ev hx, hh.ev hy, asIntOf, run_underlying hT.hu, hs.size, part, hs.agg, hv, hl]) kn
theorem s_ixarS {d T g o len e o2 : Nat} {kk : IntKind} {x y : Operand} {i : Int} (k : Nat) (hd : Nat.blt d n = true) [hT : ArT P T len e] (hx : ev fr x = some (.pointer (some ⟨g, o, none⟩))) (hy : ev fr y = some (.int kk i)) (hi : i = (k : Int)) (hl : k < len) (ho : o + k = o2)
    (kn : WpL P n D ops rest Q ((d, .pointer (some ⟨g, o2, none⟩)) :: fr) l) : WpL P n D ops (⟨some d, .indexAddr T x y, ty, pos, aft, none⟩ :: rest) Q fr l := by
  subst hi
  exact s_ixar hd hx hy (Eq.mpr Nat.blt_eq hl) ho kn
theorem ZV {d f : Nat} {us xs : List Operand} {ws vs : List Value} (hd : Nat.blt d n = true) (hu : evs fr us = some ws) (hx : evs fr xs = some vs) (k : WpL P n D ops rest Q ((d, .func (.func f) ws.toArray vs.toArray) :: fr) l) :
    WpL P n D ops (⟨some d, .makeFunc (.func f) us.toArray xs.toArray, ty, pos, aft, none⟩ :: rest) Q fr l :=
  WpL.val hd (fun a w _ hh _ => by simp [execOp, ← X6 hh us ws hu, ← X6 hh xs vs hx, Instr.makeFunc]) k
theorem s_orv {d T T2 : Nat} {x y : Operand} {kk : IntKind} {u j : Int} (r : Int) (hd : Nat.blt d n = true) (hx : ev fr x = some (.int kk u)) (hy : ev fr y = some (.int kk j)) (hu : 0 ≤ u ∧ u < 2 ^ kk.bits) (hj : 0 ≤ j ∧ j < 2 ^ kk.bits) (he : ((u.toNat ||| j.toNat : Nat) : Int) = r) (hw : kk.wrap r = r)
    (k : WpL P n D ops rest Q ((d, .int kk r) :: fr) l) : WpL P n D ops (⟨some d, .binOp .or T x y T2, ty, pos, aft, none⟩ :: rest) Q fr l :=
  WpL.val hd (fun a w _ hh _ => by
    have e1 := Zd (k := kk) hu.1 hu.2
    have e2 := Zd (k := kk) hj.1 hj.2
    simp only [execOp, hh.ev hx, hh.ev hy, eqGuard, binOp, Op.intBits]
    simp only [BitVec.toNat_or, e1, e2]
    rw [he, hw]
    simp) k
/-- append(s, t...), t any slice that is read. -/
theorem s_appr {d t e s by_ : Nat} {z : Value} {x y : Operand} {a a2 : Option Addr} {c m c2 m2 : Nat} {xs ys : List Value} {As F : List HP} (hd : Nat.blt d n = true) [ht : SlT P t e s by_ z] (hx : ev fr x = some (.slice a m c)) (hy : ev fr y = some (.slice a2 m2 c2))
    (htk : Take l [QG e s a c m xs] F) (hA : RdsL As a2 ys) (he : Ent l As) (hne : ys ≠ []) (hl : ys.length = m2 * s) (hz : z.cells.size = s) (hs : Nat.blt 0 s = true) (h1 : ∀ u ∈ ys, u.oneCell' = true) (hb : (m + m2) * by_ ≤ 140737488355328) (hm : m + m2 ≤ 140737488355328)
    (k : ∀ a' c', WpL P n D ops rest Q ((d, .slice a' (m + m2) c') :: fr) (QG e s a' c' (m + m2) (xs ++ ys) :: F)) : WpL P n D ops (⟨some d, .call ⟨.builtin .append, #[x, y], #[t, t]⟩, ty, pos, aft, none⟩ :: rest) Q fr l := by
  refine XR (σ := Option Addr × Nat) hd (fun p => .slice p.1 (m + m2) p.2) (fun p => QG e s p.1 p.2 (m + m2) (xs ++ ys) :: F) (fun A w U hh hs' => ?_) (fun p => k p.1 p.2)
  obtain ⟨r1, r2⟩ := hA w U (he w U hs')
  cases a2 with
  | none => exact absurd (r1 hne) (by simp)
  | some ad =>
    obtain ⟨a', c', w', hr, ho⟩ := Vf (P := P) (t := t) (ty := ty) hz (Eq.mp Nat.blt_eq hs) (htk.ent w U hs') ad m2 c2 ys hl (fun j u hu => r2 ad rfl j u hu) h1 hb hm
    exact ⟨(a', c'), w', by simp [execOp, resolve, invoke, builtin, hh.ev hx, hh.ev hy, hr], ho⟩
theorem take_seg {α : Type} {cur ys xs : List α} {m L : Nat} (h : cur.take m = xs) (hL : L + ys.length ≤ m) (hm : m ≤ cur.length) : (cur.take L ++ ys ++ cur.drop (L + ys.length)).take m = xs.take L ++ ys ++ xs.drop (L + ys.length) := by
  subst h
  rw [List.take_append, List.take_of_length_le (l := cur.take L ++ ys) (by simp; omega), List.take_take, List.drop_take, Nat.min_eq_left (by omega)]
  congr 2
  simp only [List.length_append, List.length_take]; omega
/-- copy(s[L:], t): both rows of one's QG. -/
theorem s_copyo {d t u e by_ c m L q c1 m2 c2 : Nat} {z : Value} {x y : Operand} {a a2 : Option Addr} {xs ys : List Value} {F : List HP} (hd : Nat.blt d n = true) [ht : SlT P t e 1 by_ z] (hx : ev fr x = some (.slice (sla a L c 1) q c1)) (hy : ev fr y = some (.slice a2 m2 c2))
    (htk : Take l [QG e 1 a c m xs, QG e 1 a2 c2 m2 ys] F) (hL : L + q ≤ m) (hm : m2 ≤ q) (h0 : 0 < m2) (h1 : ∀ v ∈ ys, v.oneCell' = true)
    (k : WpL P n D ops rest Q ((d, .int .i64 (m2 : Int)) :: fr) (QG e 1 a c m (xs.take L ++ ys ++ xs.drop (L + m2)) :: QG e 1 a2 c2 m2 ys :: F)) : WpL P n D ops (⟨some d, .call ⟨.builtin .copy, #[x, y], #[t, u]⟩, ty, pos, aft, none⟩ :: rest) Q fr l := by
  refine XR (σ := Unit) hd (fun _ => .int .i64 (m2 : Int)) (fun _ => QG e 1 a c m (xs.take L ++ ys ++ xs.drop (L + m2)) :: QG e 1 a2 c2 m2 ys :: F) (fun A w U hh hs' => ⟨(), ?_⟩) (fun _ => k)
  have h2 := htk.ent w U hs'
  have h2' := h2
  obtain ⟨S1, hp1, _, S2, hp2, _⟩ := h2'
  have hl2 := hp2.2.1
  have hl1 := hp1.2.1
  rw [Nat.mul_one] at hl1 hl2
  rcases XM hp1 with ⟨_, _, rfl, _⟩ | ⟨g, cur, rfl, hg, hmc, hcs, htk1, _⟩
  · omega
  · rcases XM hp2 with ⟨_, _, rfl, _⟩ | ⟨g2, cur2, rfl, hg2, hmc2, hcs2, htk2, _⟩
    · omega
    · rw [Nat.mul_one] at hcs hcs2 htk1 htk2
      have hne : ¬ c = L := by omega
      have hsla : sla (some ⟨g, 0, none⟩) L c 1 = some ⟨g, L, none⟩ := by unfold sla; rw [if_neg hne]; simp [ZY]
      rw [hsla] at hx
      obtain ⟨i0, hi, hz0, hz1, hz2⟩ := info_parts ht.hi
      have hr := run_copy_row (P := P) w t u ty e g L q c1 ⟨g2, 0, none⟩ m2 c2 cur e ys ht.hu (by rw [hi]; simp [hz1]) hg (by rw [hl2]; exact (Nat.min_eq_left hm).symm) (fun j v hj => Y9 hp2 rfl j v hj) (by rw [hcs, hl2]; omega) h1
      refine ⟨w.setRow g (cur.toList.take L ++ ys ++ cur.toList.drop (L + ys.length)).toArray, ?_, ?_⟩
      · simp [execOp, resolve, invoke, builtin, hh.ev hx, hh.ev hy, hr, goInt, hl2]
      · obtain ⟨V, ⟨S, ⟨hS, hown⟩, hSV, _⟩, hfr⟩ := Out.frame (pre := [QG e 1 (some ⟨g, 0, none⟩) c m xs]) (F := QG e 1 (some ⟨g2, 0, none⟩) c2 m2 ys :: F) h2
        refine hfr [QG e 1 (some ⟨g, 0, none⟩) c m (xs.take L ++ ys ++ xs.drop (L + m2))] _ ⟨⟨S, ⟨hS, ?_⟩, fun b hb => .inl (hSV b hb), trivial⟩, rfl, rfl, rfl, by simp, fun b hb hn => setRow_other w g b _ fun e => hn (hSV b ((hS b).2 ⟨_, rfl, e⟩))⟩
        have hseg := take_seg (ys := ys) (L := L) htk1 (by omega) (by simpa [hcs] using hmc)
        rw [hl2] at hseg
        refine ⟨by simp only [List.length_append, List.length_take, List.length_drop]; omega, ?_⟩
        rcases hown.2 with ⟨e, _⟩ | ⟨g', cap, cur', e, hb', hg', q1, q2, q3, q4⟩
        · cases e
        · injection e with e1 e2 e3
          injection e1 with e1
          injection e1 with e1 _ _
          subst e1
          subst e3
          rw [hg] at hg'
          injection hg' with hg'
          injection hg' with hg' _ _
          subst hg'
          refine .inr ⟨g, c, _, rfl, Nat.zero_le _, setRow_heap w g _ _ e _ hg, q1, q2, ?_, ?_⟩
          · simp only [List.size_toArray, List.length_append, List.length_take, List.length_drop, Array.length_toList]; omega
          · rw [Nat.mul_one, hl2]; exact hseg
end
end Go.Proofs.YtggamdlpiejbiaaGreat
namespace Go.Proofs.YtggamdlpiejbiaaGreat
open Go.RowKit Go.Shelf
/-- Which function a method of a type is: with nothing beside the receiver, or one value. -/
class InvM0 (P : Program) (name : String) (T : Nat) (f : outParam Nat) : Prop where
  run : ∀ (x : Value) w, (invoke (.fn (.method name) #[]) #[.iface T x]).run P w = .ok (.enter f #[x]) w
class InvM1 (P : Program) (name : String) (T : Nat) (f : outParam Nat) : Prop where
  run : ∀ (x c : Value) w, (invoke (.fn (.method name) #[]) #[.iface T x, c]).run P w = .ok (.enter f #[x, c]) w
section
variable {P : Program} {n : Cx} {D : List Deferred} {ops : Array Oper} {rest : List Oper} {Q : Post} {fr : Fr} {l : List HP} {ty : Nat} {pos : String} {aft : Array Edge}
theorem s_mkif {d T e : Nat} {x : Operand} {v : Value} (hd : Nat.blt d n = true) (hT : P.underlying T = some (.pointer e)) (hx : ev fr x = some v) (k : WpL P n D ops rest Q ((d, .iface T v) :: fr) l) : WpL P n D ops (⟨some d, .makeInterface T x, ty, pos, aft, none⟩ :: rest) Q fr l :=
  WpL.val hd (fun a w _ hh _ => by simp [execOp, Instr.makeInterface, hh.ev hx, run_underlying hT]) k
theorem s_taT {d T X e : Nat} {x : Operand} {v : Value} (hd : Nat.blt d n = true) (hT : P.underlying T = some (.pointer e)) (hx : ev fr x = some (.iface T v)) (k : WpL P n D ops rest Q ((d, .tuple #[v, .bool true]) :: fr) l) : WpL P n D ops (⟨some d, .typeAssert x X T true, ty, pos, aft, none⟩ :: rest) Q fr l :=
  WpL.val hd (fun a w _ hh _ => by simp [execOp, Instr.typeAssert, hh.ev hx, run_underlying hT]) k
theorem s_taF {d T X T2 e : Nat} {x : Operand} {v : Value} (hd : Nat.blt d n = true) (hT : P.underlying T = some (.pointer e)) (hz : ∀ w, (zeroValue T).run P w = .ok (.pointer none) w) (hx : ev fr x = some (.iface T2 v)) (hne : T2 ≠ T) (k : WpL P n D ops rest Q ((d, .tuple #[.pointer none, .bool false]) :: fr) l) : WpL P n D ops (⟨some d, .typeAssert x X T true, ty, pos, aft, none⟩ :: rest) Q fr l :=
  WpL.val hd (fun a w _ hh _ => by simp [execOp, Instr.typeAssert, hh.ev hx, run_underlying hT, hne, hz]) k
theorem s_taN {d T X e : Nat} {x : Operand} (hd : Nat.blt d n = true) (hT : P.underlying T = some (.pointer e)) (hz : ∀ w, (zeroValue T).run P w = .ok (.pointer none) w) (hx : ev fr x = some .nilIface) (k : WpL P n D ops rest Q ((d, .tuple #[.pointer none, .bool false]) :: fr) l) : WpL P n D ops (⟨some d, .typeAssert x X T true, ty, pos, aft, none⟩ :: rest) Q fr l :=
  WpL.val hd (fun a w _ hh _ => by simp [execOp, Instr.typeAssert, hh.ev hx, run_underlying hT, hz]) k
theorem s_inv0 {d f T : Nat} {name : String} {r : Operand} {x : Value} {at_ : Array Nat} {pre F : List HP} {R : Value → List HP → Prop} (hd : Nat.blt d n = true) [hi : InvM0 P name T f]
    (hr : ev fr r = some (.iface T x)) (ht : Take l pre F) (h : Fn P f #[x] pre R)
    (k : ∀ v m, R v m → WpL P n D ops rest Q ((d, v) :: fr) (m ++ F)) : WpL P n D ops (⟨some d, .call ⟨.invoke r name, #[], at_⟩, ty, pos, aft, none⟩ :: rest) Q fr l :=
  WpL.call hd f (fun a w hh => by
    have e1 := hh.ev hr
    have e3 := hi.run x w
    simp only [execOp, resolve, Sem.run_bind, e1, Sem.run_pure, Result.andThen_ok]
    simpa using e3) h ht k
theorem s_inv1 {d f T : Nat} {name : String} {r y : Operand} {x c : Value} {at_ : Array Nat} {pre F : List HP} {R : Value → List HP → Prop} (hd : Nat.blt d n = true) [hi : InvM1 P name T f]
    (hr : ev fr r = some (.iface T x)) (hy : ev fr y = some c) (ht : Take l pre F) (h : Fn P f #[x, c] pre R)
    (k : ∀ v m, R v m → WpL P n D ops rest Q ((d, v) :: fr) (m ++ F)) : WpL P n D ops (⟨some d, .call ⟨.invoke r name, #[y], at_⟩, ty, pos, aft, none⟩ :: rest) Q fr l :=
  WpL.call hd f (fun a w hh => by
    have e1 := hh.ev hr
    have e2 := hh.ev hy
    have e3 := hi.run x c w
    simp only [execOp, resolve, Sem.run_bind, e1, Sem.run_pure, Result.andThen_ok]
    simpa [e2] using e3) h ht k
end
end Go.Proofs.YtggamdlpiejbiaaGreat
