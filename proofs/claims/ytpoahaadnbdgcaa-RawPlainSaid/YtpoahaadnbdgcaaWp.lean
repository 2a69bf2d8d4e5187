/- A walk's judgement over known slots and separated parts: code, lists of operations, calls, loops, returns. -/
import Derived.Test.YtpoahaadnbdgcaaSl
import Derived.Sort.LoopGhostIn
import Derived.RangeFuncNested
import Derived.RangeFuncLeaves
namespace Go.Proofs.Ytpoahaadnbdgcaa
open Go.RowKit Go.Shelf

/-! ### Slots -/
abbrev Fr := List (Nat × Value)
def lk : Fr → Nat → Option Value
  | [], _ => none
  | (k, v) :: l, t => cond (Nat.beq k t) (some v) (lk l t)
/-- How many slots; the round that the activation is. -/
structure Cx where
  n : Nat
  ro : Option Nat
instance : Coe Cx Nat := ⟨Cx.n⟩
abbrev FR (ro : Option Nat) : Fence := { Fence.wide with round := ro }
def Holds (n : Cx) (D : List Deferred) (a : Act) (fr : Fr) : Prop := a.defers = D ∧ a.tmps.size = n ∧ ∀ t v, lk fr t = some v → a.tmps.getD t undef = v
def ev (fr : Fr) : Operand → Option Value
  | .tmp t => lk fr t
  | .const v => some v
  | .global g => some (.pointer (some ⟨g, 0, none⟩))
  | .func f => some (.func (.func f) #[] #[])

theorem Holds.ev {n : Cx} {D : List Deferred} {a : Act} {fr : Fr} (h : Holds n D a fr) {x : Operand} {v : Value} (hx : ev fr x = some v) : a.eval x = v := by
  cases x with
  | tmp t => exact h.2.2 t v hx
  | const u => exact Option.some.inj hx
  | global g => exact Option.some.inj hx
  | func f => exact Option.some.inj hx

theorem Holds.put {n : Cx} {D : List Deferred} {a : Act} {fr : Fr} (h : Holds n D a fr) {d : Nat} (hd : Nat.blt d n = true) (v : Value) : Holds n D (a.put (some d) v) ((d, v) :: fr) := by
  have hlt : d < n := Eq.mp Nat.blt_eq hd
  refine ⟨h.1, ?_, ?_⟩
  · simp [Act.put, h.2.1]
  · intro t u hu
    simp only [lk] at hu
    simp only [Act.put]
    by_cases e : d = t
    · subst e
      simp only [Nat.beq_refl, cond_true, Option.some.injEq] at hu
      subst hu
      simp [Array.getD, h.2.1, hlt]
    · have hb : Nat.beq d t = false := by
        cases hx : Nat.beq d t
        · rfl
        · exact absurd (Nat.eq_of_beq_eq_true hx) e
      rw [hb] at hu
      have := h.2.2 t u hu
      simp only [Array.getD, Array.size_setIfInBounds] at this ⊢
      split
      · rename_i hs
        rw [dif_pos hs] at this
        simp only [Array.getInternal_eq_getElem] at this ⊢
        rw [Array.getElem_setIfInBounds (by simpa using hs), if_neg e]; exact this
      · rename_i hs; rw [dif_neg hs] at this; exact this

def FrLe (fr : Fr) : Fr → Prop
  | [] => True
  | (t, v) :: r => lk fr t = some v ∧ FrLe fr r
theorem FrLe.lk {fr : Fr} : ∀ {gr : Fr}, FrLe fr gr → ∀ t v, lk gr t = some v → lk fr t = some v
  | [], _, _, _, h => by simp [Go.Proofs.Ytpoahaadnbdgcaa.lk] at h
  | (k, u) :: gr, h, t, v, hv => by
    simp only [Go.Proofs.Ytpoahaadnbdgcaa.lk] at hv
    cases hb : Nat.beq k t with
    | true => rw [hb] at hv; have := Nat.eq_of_beq_eq_true hb; subst this; simp only [cond_true, Option.some.injEq] at hv; subst hv; exact h.1
    | false => rw [hb] at hv; exact FrLe.lk h.2 t v hv
theorem Holds.le {n : Cx} {D : List Deferred} {a : Act} {fr gr : Fr} (h : Holds n D a fr) (hl : FrLe fr gr) : Holds n D a gr := ⟨h.1, h.2.1, fun t v hv => h.2.2 t v (hl.lk t v hv)⟩

/-! ### The judgement -/
abbrev Post := Exit → List Deferred → Fr → List HP → Prop
def After (n : Cx) (Q : Post) (U : Nat → Prop) (w : World) : Exit → Act → World → Prop := fun e a' w' => ∃ D' fr' l', Q e D' fr' l' ∧ Holds n D' a' fr' ∧ Out l' U w w'
def Wp (P : Program) (n : Cx) (D : List Deferred) (c : Code) (Q : Post) (fr : Fr) (l : List HP) : Prop := ∀ a w U, Holds n D a fr → Sat w l U → c.wpIn (FR n.ro) 0 P (After n Q U w) a w
def WpL (P : Program) (n : Cx) (D : List Deferred) (ops : Array Oper) (rest : List Oper) (Q : Post) (fr : Fr) (l : List HP) : Prop := ∀ a w U, Holds n D a fr → Sat w l U → wpListIn (FR n.ro) 0 P ops (After n Q U w) rest a w

section
variable {P : Program} {n : Cx} {D : List Deferred} {ops : Array Oper} {rest : List Oper} {Q Q' : Post} {fr gr : Fr} {l m : List HP}

theorem After.later {U : Nat → Prop} {w w1 : World} {l1 : List HP} (h : Out l1 U w w1) {e : Exit} {a : Act} {w2 : World} (k : After n Q (Grow U w) w1 e a w2) : After n Q U w e a w2 := by
  obtain ⟨D', fr', l', q, hh, ho⟩ := k
  exact ⟨D', fr', l', q, hh, h.then ho⟩
theorem After.mono {U : Nat → Prop} {w : World} (hq : ∀ e D fr l, Q e D fr l → Q' e D fr l) {e : Exit} {a : Act} {w2 : World} (k : After n Q U w e a w2) : After n Q' U w e a w2 := by
  obtain ⟨D', fr', l', q, hh, ho⟩ := k
  exact ⟨D', fr', l', hq _ _ _ _ q, hh, ho⟩

theorem sem_of_exec {ro : Option Nat} {ρ : Operand → Value} {o : Oper} {w w' : World} {x : Next} (h : (execOp ρ o).run P w = .ok x w') (hx : ∀ d, x ≠ .defer d) : (o.semAt ro ρ).run P w = .ok x w' := by
  by_cases hd : ∃ c, o.op = .defer c
  · obtain ⟨c, hc⟩ := hd
    exfalso
    unfold execOp at h
    rw [hc] at h
    simp only [Sem.run_bind] at h
    cases hr : (resolve ρ c o.type).run P w with
    | ok d w1 => rw [hr] at h; simp at h; exact hx _ h.1.symm
    | halt y w1 => rw [hr] at h; simp [Result.andThen] at h
  · rw [Oper.semAt_eq _ _ _ (fun c hc => hd ⟨c, hc⟩)]; exact h
theorem callsIn_FR {ro : Option Nat} {k : Nat} {f : FuncId} {args : Array Value} {w : World} {R : Ending → World → Prop} (h : Calls P f args w R) : CallsIn (FR ro) k P f args w R := by
  cases ro with
  | none => exact callsIn_wide.2 h
  | some l => exact CallsIn.inRound l (callsIn_wide.2 h)
theorem calls_FR {k : Nat} {f : FuncId} {args : Array Value} {w : World} {R : Ending → World → Prop} (h : CallsIn (FR none) k P f args w R) : Calls P f args w R := callsIn_wide.1 h
theorem op_mono {F : Fence} {k : Nat} {o : Oper} {a : Act} {w : World} {K K' : Act → World → Prop} {Q Q' : Exit → Act → World → Prop} (h : ∀ a w, K a w → K' a w) (hq : ∀ e a w, Q e a w → Q' e a w)
    (hh : o.wpIn F k P a w K Q) : o.wpIn F k P a w K' Q' := by
  unfold Oper.wpIn at *
  refine ⟨hh.1, ?_⟩
  have hh := hh.2
  generalize (o.semAt F.round a.eval).run P w = r at *
  cases r with
  | ok n w' =>
    cases n <;> simp only [Oper.uponIn] at hh ⊢ <;>
      first
        | exact h _ _ hh
        | exact ⟨hh.1, CallsIn.mono hh.2 (fun e w'' he => by cases e <;> first | exact h _ _ he | exact hq _ _ _ he | exact (let ⟨a, w, x⟩ := he; ⟨a, w, hq _ _ _ x⟩))⟩
        | exact ⟨hh.1, RoundIn.mono hh.2 (fun e w'' he => by cases e <;> first | exact h _ _ he | exact hq _ _ _ he | exact (let ⟨a, w, x⟩ := he; ⟨a, w, hq _ _ _ x⟩))⟩
        | exact ⟨hh.1, RowsIn.mono hh.2 (fun _ _ he => h _ _ he)⟩
  | halt x w' => cases x <;> simp only [Oper.uponIn] at hh ⊢ <;> first | exact hq _ _ _ hh | exact hh

theorem wpList_mono' {F : Fence} {k : Nat} {Q Q' : Exit → Act → World → Prop} (hq : ∀ e a w, Q e a w → Q' e a w) : ∀ (rest : List Oper) (a : Act) (w : World), wpListIn F k P ops Q rest a w → wpListIn F k P ops Q' rest a w
  | [], _, _, h => hq _ _ _ h
  | o :: rest, a, w, h => by
    unfold wpListIn at h ⊢
    split
    · rename_i hw
      rw [if_pos hw] at h
      exact op_mono (wpList_mono' hq rest) hq h
    · rename_i hw
      rw [if_neg hw] at h
      exact ⟨h.1, wpList_mono' hq rest _ _ h.2⟩

theorem Wp.mono (hq : ∀ e D fr l, Q e D fr l → Q' e D fr l) {c : Code} (h : Wp P n D c Q fr l) : Wp P n D c Q' fr l :=
  fun a w U hh hs => Go.wpIn_mono (h a w U hh hs) fun _ _ _ k => k.mono hq
theorem Wp.le {c : Code} (hf : FrLe fr gr) (he : Ent l m) (h : Wp P n D c Q gr m) : Wp P n D c Q fr l := fun a w U hh hs => h a w U (hh.le hf) (he w U hs)
theorem Wp.ent {c : Code} (he : Ent l m) (h : Wp P n D c Q fr m) : Wp P n D c Q fr l := fun a w U hh hs => h a w U hh (he w U hs)
theorem Wp.slots {c : Code} (hf : FrLe fr gr) (h : Wp P n D c Q gr l) : Wp P n D c Q fr l := fun a w U hh hs => h a w U (hh.le hf) hs
theorem WpL.ent (he : Ent l m) (h : WpL P n D ops rest Q fr m) : WpL P n D ops rest Q fr l := fun a w U hh hs => h a w U hh (he w U hs)
theorem WpL.slots (hf : FrLe fr gr) (h : WpL P n D ops rest Q gr l) : WpL P n D ops rest Q fr l := fun a w U hh hs => h a w U (hh.le hf) hs

/-- A step's continuation, in the world behind it. -/
theorem WpL.go {a : Act} {w w1 : World} {U : Nat → Prop} {l1 : List HP} (k : WpL P n D ops rest Q gr l1) (hh : Holds n D a gr) (ho : Out l1 U w w1) : wpListIn (FR n.ro) 0 P ops (After n Q U w) rest a w1 :=
  wpList_mono' (fun _ _ _ x => After.later ho x) rest _ _ (k a w1 (Grow U w) hh ho.1)

/-! ### Code -/
def thn (K : List Deferred → Fr → List HP → Prop) (Q : Post) : Post
  | .normal, D, fr, l => K D fr l
  | e, D, fr, l => Q e D fr l
theorem Wp.seq {x y : Code} (h : Wp P n D x (thn (fun D => Wp P n D y Q) Q) fr l) : Wp P n D (.seq x y) Q fr l := by
  intro a w U hh hs
  refine wpIn_seq (Go.wpIn_mono (h a w U hh hs) ?_)
  rintro e a1 w1 ⟨D1, fr1, l1, q, hh1, ho⟩
  cases e with
  | normal => exact Go.wpIn_mono (q a1 w1 (Grow U w) hh1 ho.1) fun _ _ _ k => k.later ho
  | _ => exact ⟨D1, fr1, l1, q, hh1, ho⟩
theorem Wp.skip (h : Q .normal D fr l) : Wp P n D .skip Q fr l := fun _ _ _ hh hs => wpIn_skip ⟨D, fr, l, h, hh, .refl hs⟩
theorem Wp.ret (h : Q .ret D fr l) : Wp P n D .ret Q fr l := fun _ _ _ hh hs => wpIn_ret ⟨D, fr, l, h, hh, .refl hs⟩
theorem Wp.exit {id : Nat} (h : Q (.exit id) D fr l) : Wp P n D (.exit id) Q fr l := fun _ _ _ hh hs => wpIn_exit ⟨D, fr, l, h, hh, .refl hs⟩
theorem Wp.cond {c : Operand} {x y : Code} {t : Bool} (hc : ev fr c = some (.bool t)) (h1 : t = true → Wp P n D x Q fr l) (h2 : t = false → Wp P n D y Q fr l) : Wp P n D (.cond c x y) Q fr l :=
  fun a w U hh hs => wpIn_cond_split (hh.ev hc) (fun e => h1 e a w U hh hs) (fun e => h2 e a w U hh hs)
theorem Wp.condT {c : Operand} {x y : Code} (hc : ev fr c = some (.bool true)) (h1 : Wp P n D x Q fr l) : Wp P n D (.cond c x y) Q fr l := Wp.cond hc (fun _ => h1) (fun e => nomatch e)
theorem Wp.condF {c : Operand} {x y : Code} (hc : ev fr c = some (.bool false)) (h1 : Wp P n D y Q fr l) : Wp P n D (.cond c x y) Q fr l := Wp.cond hc (fun e => nomatch e) (fun _ => h1)
theorem Wp.condD {c : Operand} {x y : Code} {p : Prop} [Decidable p] (hc : ev fr c = some (.bool (decide p))) (h1 : p → Wp P n D x Q fr l) (h2 : ¬ p → Wp P n D y Q fr l) : Wp P n D (.cond c x y) Q fr l :=
  Wp.cond hc (fun e => h1 (of_decide_eq_true e)) (fun e => h2 (of_decide_eq_false e))
def blkQ (id : Nat) (Q : Post) : Post
  | .exit k, D, fr, l => if k = id then Q .normal D fr l else Q (.exit k) D fr l
  | e, D, fr, l => Q e D fr l
theorem Wp.block {id : Nat} {c : Code} (h : Wp P n D c (blkQ id Q) fr l) : Wp P n D (.block id c) Q fr l := by
  intro a w U hh hs
  refine wpIn_block (Go.wpIn_mono (h a w U hh hs) ?_)
  rintro e a1 w1 ⟨D1, fr1, l1, q, hh1, ho⟩
  cases e with
  | exit k =>
    simp only [Exit.inBlock]
    by_cases hk : k = id
    · rw [if_pos hk]; exact ⟨D1, fr1, l1, by simpa [blkQ, hk] using q, hh1, ho⟩
    · rw [if_neg hk]; exact ⟨D1, fr1, l1, by simpa [blkQ, hk] using q, hh1, ho⟩
  | _ => exact ⟨D1, fr1, l1, q, hh1, ho⟩
theorem Wp.region {id : Nat} {os : List Oper} (h : WpL P n D os.toArray os Q fr l) : Wp P n D (.region id os.toArray false) Q fr l :=
  fun a w U hh hs => wpIn_region_lit (h a w U hh hs)
/-- A cut: what is said behind the first code is all that is known of it. -/
theorem Wp.seqR {x y : Code} (R : List Deferred → Fr → List HP → Prop) (h : Wp P n D x (thn R Q) fr l) (k : ∀ D fr l, R D fr l → Wp P n D y Q fr l) : Wp P n D (.seq x y) Q fr l :=
  Wp.seq (h.mono fun e D fr l q => by cases e <;> first | exact k _ _ _ q | exact q)

def loopQ {σ : Type} (D0 : List Deferred) (I : σ → Prop) (F : σ → Fr) (L : σ → List HP) (μ : σ → Nat) (x : σ) (Q : Post) : Post
  | .normal, D, fr, l => D = D0 ∧ ∃ y, I y ∧ μ y < μ x ∧ FrLe fr (F y) ∧ Ent l (L y)
  | e, D, fr, l => Q e D fr l
theorem Wp.loop {σ : Type} (I : σ → Prop) (F : σ → Fr) (L : σ → List HP) (μ : σ → Nat) (x0 : σ) (h0 : I x0) (hf : FrLe fr (F x0)) (hl : Ent l (L x0)) {c : Code}
    (body : ∀ x, I x → Wp P n D c (loopQ D I F L μ x Q) (F x) (L x)) : Wp P n D (.loop c) Q fr l := by
  intro a w U hh hs
  refine wpIn_loop_ghost (fun k a' w' => ∃ x, I x ∧ μ x = k ∧ Holds n D a' (F x) ∧ Out (L x) U w w') (μ x0) ⟨x0, h0, rfl, hh.le hf, (Out.refl hs).ent hl⟩ ?_
  rintro k a1 w1 ⟨x, hx, rfl, hh1, ho⟩
  refine Go.wpIn_mono (body x hx a1 w1 (Grow U w) hh1 ho.1) ?_
  rintro e a2 w2 ⟨D2, fr2, l2, q, hh2, ho2⟩
  cases e with
  | normal =>
    obtain ⟨rfl, y, hy, hlt, hf2, he2⟩ := q
    exact ⟨μ y, hlt, y, hy, rfl, hh2.le hf2, (ho.then ho2).ent he2⟩
  | _ => exact ⟨D2, fr2, l2, q, hh2, ho.then ho2⟩

/-! ### Operations -/
theorem WpL.nil (h : Q .normal D fr l) : WpL P n D ops [] Q fr l := fun _ _ _ hh hs => wpListIn_nil ⟨D, fr, l, h, hh, .refl hs⟩

theorem WpL.valx {σ : Sort _} {op : Op} {d ty : Nat} {pos : String} {aft : Array Edge} (hd : Nat.blt d n = true) (v : σ → Value) (L : σ → List HP)
    (h : ∀ a w U, Holds n D a fr → Sat w l U → ∃ x w', (execOp a.eval ⟨some d, op, ty, pos, aft, none⟩).run P w = .ok (.value (v x)) w' ∧ Out (L x) U w w')
    (k : ∀ x, WpL P n D ops rest Q ((d, v x) :: fr) (L x)) : WpL P n D ops (⟨some d, op, ty, pos, aft, none⟩ :: rest) Q fr l := by
  intro a w U hh hs
  obtain ⟨x, w', hr, ho⟩ := h a w U hh hs
  refine wpListIn_plain rfl fun K hK => ?_
  unfold Oper.wpIn
  rw [sem_of_exec hr (fun _ e => nomatch e)]
  exact ⟨fun _ _ => trivial, hK _ _ ((k x).go (hh.put hd _) ho)⟩
theorem WpL.val {op : Op} {d ty : Nat} {pos : String} {aft : Array Edge} (hd : Nat.blt d n = true) {v : Value}
    (h : ∀ a w U, Holds n D a fr → Sat w l U → (execOp a.eval ⟨some d, op, ty, pos, aft, none⟩).run P w = .ok (.value v) w)
    (k : WpL P n D ops rest Q ((d, v) :: fr) l) : WpL P n D ops (⟨some d, op, ty, pos, aft, none⟩ :: rest) Q fr l :=
  WpL.valx (σ := Unit) hd (fun _ => v) (fun _ => l) (fun a w U hh hs => ⟨(), w, h a w U hh hs, .refl hs⟩) (fun _ => k)
theorem WpL.skp {op : Op} {ty : Nat} {pos : String} {aft : Array Edge}
    (h : ∀ a w U, Holds n D a fr → Sat w l U → ∃ w', (execOp a.eval ⟨none, op, ty, pos, aft, none⟩).run P w = .ok .skip w' ∧ Out m U w w')
    (k : WpL P n D ops rest Q fr m) : WpL P n D ops (⟨none, op, ty, pos, aft, none⟩ :: rest) Q fr l := by
  intro a w U hh hs
  obtain ⟨w', hr, ho⟩ := h a w U hh hs
  refine wpListIn_plain rfl fun K hK => ?_
  unfold Oper.wpIn
  rw [sem_of_exec hr (fun _ e => nomatch e)]
  exact ⟨fun _ _ => trivial, hK _ _ (k.go hh ho)⟩

/-! guards -/
theorem yielded_of {a : Act} {ops : Array Oper} (hh : Holds n D a fr) {j dj : Nat} {t : Bool} (hj : (ops[j]?).bind (·.dst) = some dj) (hl : lk fr dj = some (.bool t)) : yielded ops a.tmps j = some t := by
  have h1 := hh.2.2 dj _ hl
  unfold yielded
  rw [hj]
  simp only [Option.bind_some]
  have h2 : a.tmps[dj]? = some (.bool t) := by
    simp only [Array.getD] at h1
    split at h1
    · rename_i hs; rw [Array.getElem?_eq_getElem hs]; exact congrArg some h1
    · simp [undef] at h1
  rw [h2]
theorem WpL.gon {dst : Option Tmp} {op : Op} {ty : Nat} {pos : String} {aft : Array Edge} {j dj : Nat} {b : Bool} (hj : (ops[j]?).bind (·.dst) = some dj) (hl : lk fr dj = some (.bool b))
    (k : WpL P n D ops (⟨dst, op, ty, pos, aft, none⟩ :: rest) Q fr l) : WpL P n D ops (⟨dst, op, ty, pos, aft, some (j, b)⟩ :: rest) Q fr l := by
  intro a w U hh hs
  have h := k a w U hh hs
  unfold wpListIn at h ⊢
  rw [if_pos (by simp [Region.wanted])] at h
  rw [if_pos (by simp [Region.wanted, yielded_of hh hj hl])]
  exact h
theorem WpL.goff {d : Nat} {op : Op} {ty : Nat} {pos : String} {aft : Array Edge} {j dj : Nat} {b c : Bool} (hd : Nat.blt d n = true) (hj : (ops[j]?).bind (·.dst) = some dj) (hl : lk fr dj = some (.bool c)) (hc : c ≠ b)
    (k : WpL P n D ops rest Q ((d, undef) :: fr) l) : WpL P n D ops (⟨some d, op, ty, pos, aft, some (j, b)⟩ :: rest) Q fr l := by
  intro a w U hh hs
  unfold wpListIn
  rw [if_neg (by simp [Region.wanted, yielded_of hh hj hl, hc])]
  exact ⟨fun _ _ => trivial, k _ w U (hh.put hd _) hs⟩
theorem Holds.know {a : Act} (hh : Holds n D a fr) {t : Nat} {v u : Value} (hl : lk fr t = some v) (e : v = u) : Holds n D a ((t, u) :: fr) := by
  refine ⟨hh.1, hh.2.1, fun k x hx => ?_⟩
  simp only [lk] at hx
  cases hb : Nat.beq t k with
  | true => rw [hb] at hx; have := Nat.eq_of_beq_eq_true hb; subst this; simp only [cond_true, Option.some.injEq] at hx; subst hx; rw [← e]; exact hh.2.2 _ _ hl
  | false => rw [hb] at hx; exact hh.2.2 _ _ hx
/-- A guard that is not known: both ways. -/
theorem WpL.grd {d : Nat} {op : Op} {ty : Nat} {pos : String} {aft : Array Edge} {j dj : Nat} {b t : Bool} (hd : Nat.blt d n = true) (hj : (ops[j]?).bind (·.dst) = some dj) (hl : lk fr dj = some (.bool t))
    (k1 : t = b → WpL P n D ops (⟨some d, op, ty, pos, aft, none⟩ :: rest) Q ((dj, .bool b) :: fr) l) (k2 : t = !b → WpL P n D ops rest Q ((d, undef) :: (dj, .bool (!b)) :: fr) l) :
    WpL P n D ops (⟨some d, op, ty, pos, aft, some (j, b)⟩ :: rest) Q fr l := by
  intro a w U hh hs
  by_cases e : t = b
  · exact WpL.gon hj (by simp [lk]) (k1 e) a w U (hh.know hl (by rw [e])) hs
  · have e2 : t = !b := by cases t <;> cases b <;> simp_all
    exact WpL.goff (c := !b) hd hj (by simp [lk]) (by cases b <;> simp) (k2 e2) a w U (hh.know hl (by rw [e2])) hs

/-! ### Calls -/
theorem WpL.call {op : Op} {d ty : Nat} {pos : String} {aft : Array Edge} (hd : Nat.blt d n = true) (f : Nat) {args : Array Value} {pre F : List HP} {R : Value → List HP → Prop}
    (hx : ∀ a w, Holds n D a fr → (execOp a.eval ⟨some d, op, ty, pos, aft, none⟩).run P w = .ok (.enter f args) w) (c : Fn P f args pre R) (ht : Take l pre F)
    (k : ∀ v m, R v m → WpL P n D ops rest Q ((d, v) :: fr) (m ++ F)) : WpL P n D ops (⟨some d, op, ty, pos, aft, none⟩ :: rest) Q fr l := by
  intro a w U hh hs
  obtain ⟨V, hV, hfr⟩ := Out.frame (F := F) (ht.ent w U hs)
  refine wpListIn_plain rfl fun K hK => ?_
  unfold Oper.wpIn
  rw [sem_of_exec (hx a w hh) (fun _ e => nomatch e)]
  refine ⟨fun _ _ => trivial, fun h => (by simp [Fence.wide] at h), callsIn_FR (Calls.mono (c w V hV) ?_)⟩
  rintro e w' ⟨v, m, rfl, r, ho⟩
  exact hK _ _ ((k v m r).go (hh.put hd v) (hfr m w' ho))

/-! ### Functions -/
def frOf : Nat → List Value → Fr
  | _, [] => []
  | i, v :: vs => (i, v) :: frOf (i + 1) vs
def Res (P : Program) (fn : Func) (fr : Fr) (l : List HP) (v : Value) : Prop := ∀ n D a w U, Holds n D a fr → Sat w l U → (results fn a.tmps).run P w = .ok v w
/-- A block that is no row of cells. -/
def ob (g : Nat) (o : Obj) : HP where
  p w S := (∀ b, S b ↔ b = g) ∧ w.heap[g]? = some o
  loc := fun ⟨hs, h⟩ _ hb => ⟨hs, (hb g ((hs g).2 rfl)).trans h⟩
  lt := fun ⟨hs, h⟩ b hb => by have := (hs b).1 hb; subst this; exact (Array.getElem?_eq_some_iff.1 h).1
theorem ob_at {w : World} {g : Nat} {o : Obj} {m : List HP} {U : Nat → Prop} (h : Sat w (ob g o :: m) U) : w.heap[g]? = some o := by
  obtain ⟨S, hp, _⟩ := h
  exact hp.2
theorem ob_put {w : World} {g : Nat} {o : Obj} {m : List HP} {U : Nat → Prop} (h : Sat w (ob g o :: m) U) (o' : Obj) : Out (ob g o' :: m) U w (w.putObj g o') := by
  have hlt : g < w.heap.size := (Array.getElem?_eq_some_iff.1 (ob_at h)).1
  obtain ⟨V, ⟨S, ⟨hS, hg⟩, hSV, _⟩, hfr⟩ := Out.frame (pre := [ob g o]) (F := m) h
  refine hfr [ob g o'] _ ⟨⟨S, ⟨hS, World.putObj_heap_same hlt⟩, fun b hb => .inl (hSV b hb), trivial⟩, rfl, rfl, rfl, by simp, fun b hb hn => ?_⟩
  exact World.putObj_heap_other fun e => hn (hSV b ((hS b).2 e))
theorem ob_new {w : World} {m : List HP} {U : Nat → Prop} (h : Sat w m U) (o : Obj) : Out (ob w.heap.size o :: m) U w (w.alloc o) := by
  have hb : Below w.heap.size w (w.alloc o) := (Below.refl _ _).alloc (Nat.le_refl _) _
  have h2 : Sat (w.alloc o) m (fun b => U b ∧ b < w.heap.size) := h.inside.keep hb.size fun b _ hlt => hb.block b hlt
  refine ⟨⟨fun b => b = w.heap.size, ⟨fun _ => Iff.rfl, World.alloc_heap_new _ _⟩, fun b hb => .inr (Nat.le_of_eq hb.symm), h2.mono fun b hb => ⟨.inl hb.1, fun e => ?_⟩⟩, .of_below hb⟩
  rw [e] at hb; exact absurd hb.2 (Nat.lt_irrefl _)
/-- The block for a loop's deferred calls, and its mark. -/
abbrev dfr (g : Nat) : HP := ob g (.deferred (some []))
abbrev mrk (g : Nat) : Deferred := { target := .collected g, args := #[] }
def RetQ (P : Program) (fn : Func) (R : Value → List HP → Prop) : Post
  | .normal, D, fr, l => ∃ (gs : List Nat) (l0 : List HP) (v : Value) (m : List HP), D = gs.map mrk ∧ Ent l (gs.map dfr ++ l0) ∧ Res P fn fr l0 v ∧ R v m ∧ Ent l0 m
  | .ret, D, fr, l => ∃ (gs : List Nat) (l0 : List HP) (v : Value) (m : List HP), D = gs.map mrk ∧ Ent l (gs.map dfr ++ l0) ∧ Res P fn fr l0 v ∧ R v m ∧ Ent l0 m
  | _, _, _, _ => False
theorem leaves_marks {F : Fence} {k : Nat} {fn : Func} {tmps : Array Value} {R : Ending → World → Prop} {l0 : List HP} {U : Nat → Prop} {w0 : World} : ∀ (gs : List Nat) (w : World), Out (gs.map dfr ++ l0) U w0 w →
    (∀ w', Out l0 U w0 w' → ∃ v, (results fn tmps).run P w' = .ok v w' ∧ R (.returned v) w') → LeavesInM F k P fn tmps R (gs.map mrk) .returning w
  | [], w, h, hr => hr w h
  | g :: gs, w, h, hr => by
    have h1 : Sat w (ob g (.deferred (some [])) :: (gs.map dfr ++ l0)) (Grow U w0) := h.1
    rw [List.map_cons]
    unfold LeavesInM
    refine ⟨(fun e => nomatch e), .inl ⟨g, _, rfl, run_takeDeferred (ob_at h1), ?_⟩⟩
    exact leaves_marks gs _ ((h.then (ob_put h1 _)).ent (Ent.drop (Ent.refl _))) hr

theorem frOf_lk (vs : List Value) : ∀ (i t : Nat) (v : Value), lk (frOf i vs) t = some v → i ≤ t ∧ vs[t - i]? = some v := by
  induction vs with
  | nil => intro i t v h; simp [frOf, lk] at h
  | cons u vs ih =>
    intro i t v h
    simp only [frOf, lk] at h
    cases hb : Nat.beq i t with
    | true => rw [hb] at h; have := Nat.eq_of_beq_eq_true hb; subst this; simpa using h
    | false =>
      rw [hb] at h
      obtain ⟨h1, h2⟩ := ih _ _ _ h
      refine ⟨by omega, ?_⟩
      have : t - i = (t - (i + 1)) + 1 := by omega
      rw [this]; simpa using h2

theorem Fn.intro {f : FuncId} {fn : Func} {c : Code} {vs : List Value} {pre : List HP} {R : Value → List HP → Prop} (hf : P.funcs[f]? = some fn) (hb : fn.body = some c) {n : Nat} (hn : fn.ntmps = n) (hle : Nat.ble vs.length n = true)
    (h : Wp P ⟨n, none⟩ [] c (RetQ P fn R) (frOf 0 vs) pre) : Fn P f vs.toArray pre R := by
  intro w U hs
  have hle' : vs.length ≤ n := Eq.mp Nat.ble_eq hle
  refine calls_FR (k := 0) (callsIn_of_wp_marks hf hb trivial ?_)
  have hh : Holds ⟨n, none⟩ [] { tmps := vs.toArray ++ Array.replicate (fn.ntmps - vs.toArray.size) undef, defers := [] } (frOf 0 vs) := by
    refine ⟨rfl, by simp [hn]; omega, fun t v hv => ?_⟩
    obtain ⟨_, h2⟩ := frOf_lk vs 0 t v hv
    simp only [Nat.sub_zero] at h2
    have hlt : t < vs.length := (List.getElem?_eq_some_iff.1 h2).1
    have h3 : vs[t] = v := (List.getElem?_eq_some_iff.1 h2).2
    simp only [Array.getD, Array.size_append, List.size_toArray, Array.size_replicate]
    rw [dif_pos (by omega)]
    simp only [Array.getInternal_eq_getElem]
    rw [Array.getElem_append_left (by simpa using hlt)]
    simpa using h3
  refine Go.wpIn_mono (h _ w U hh hs) ?_
  have key : ∀ (e : Exit) (a' : Act) (w' : World), (∃ (gs : List Nat) (l0 : List HP) (v : Value) (m : List HP) (fr' : Fr) (l' : List HP), Holds ⟨n, none⟩ (gs.map mrk) a' fr' ∧ Out l' U w w' ∧ Ent l' (gs.map dfr ++ l0) ∧ Res P fn fr' l0 v ∧ R v m ∧ Ent l0 m) →
      LeavesInM (FR none) 0 P fn a'.tmps (fun e w' => ∃ v l, e = .returned v ∧ R v l ∧ Out l U w w') a'.defers .returning w' := by
    rintro e a' w' ⟨gs, l0, v, m, fr', l', hh', ho, he, hr, r, hm⟩
    rw [hh'.1]
    refine leaves_marks gs w' (ho.ent he) fun w2 ho2 => ?_
    exact ⟨v, hr ⟨n, none⟩ _ a' w2 _ hh' ho2.1, v, m, rfl, r, ho2.ent hm⟩
  rintro e a' w' ⟨D', fr', l', q, hh', ho⟩
  cases e with
  | normal => obtain ⟨gs, l0, v, m, rfl, he, hr, r, hm⟩ := q; exact key .normal a' w' ⟨gs, l0, v, m, fr', l', hh', ho, he, hr, r, hm⟩
  | ret => obtain ⟨gs, l0, v, m, rfl, he, hr, r, hm⟩ := q; exact key .normal a' w' ⟨gs, l0, v, m, fr', l', hh', ho, he, hr, r, hm⟩
  | _ => exact q.elim

theorem Res.none {fn : Func} (h : fn.results = #[]) : Res P fn fr l (.tuple #[]) := fun _ _ _ _ _ _ _ => results_none h _ _ _
theorem Res.one {fn : Func} {t : Nat} {v : Value} (h : fn.results = #[.tmp t]) (hv : lk fr t = some v) : Res P fn fr l v := fun _ _ a w _ hh _ => by
  rw [results_tmp h, hh.2.2 _ _ hv]
theorem Res.two {fn : Func} {t u : Nat} {v x : Value} (h : fn.results = #[.tmp t, .tmp u]) (hv : lk fr t = some v) (hx : lk fr u = some x) : Res P fn fr l (.tuple #[v, x]) := fun _ _ a w _ hh _ => by
  rw [results_tmp2 h, hh.2.2 _ _ hv, hh.2.2 _ _ hx]
theorem Res.three {fn : Func} {t u r : Nat} {v x y : Value} (h : fn.results = #[.tmp t, .tmp u, .tmp r]) (hv : lk fr t = some v) (hx : lk fr u = some x) (hy : lk fr r = some y) : Res P fn fr l (.tuple #[v, x, y]) := fun _ _ a w _ hh _ => by
  have e : (results fn a.tmps).run P w = .ok (.tuple #[a.tmps.getD t undef, a.tmps.getD u undef, a.tmps.getD r undef]) w := by simp [results, h]
  rw [e, hh.2.2 _ _ hv, hh.2.2 _ _ hx, hh.2.2 _ _ hy]
end
end Go.Proofs.Ytpoahaadnbdgcaa
