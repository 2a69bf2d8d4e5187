/- Walks and plain laws, a part of the proof of PnmJoins: every input that the law's guards let in, no condition beside. -/
import Derived.WalkKit
import Derived.Orders
import Derived.Shelf.Abstract
import Derived.Sort.LoopGhostIn
import Derived.RangeFuncNested
import Derived.RangeFuncLeaves
namespace Go.Proofs.YtggamdlpiejbiaaGreat
open Go.RowKit

theorem Qr {α : Type _} : (∀ l : List α, [] ++ l = l) ∧ ∀ (a : α) (l m : List α), a :: l ++ m = a :: (l ++ m) := ⟨fun _ => rfl, fun _ _ _ => rfl⟩
structure HP where
  p : World → (Nat → Prop) → Prop
  loc : ∀ {w w' : World} {S : Nat → Prop}, p w S → w.heap.size ≤ w'.heap.size → (∀ b, S b → w'.heap[b]? = w.heap[b]?) → p w' S
  lt : ∀ {w : World} {S : Nat → Prop}, p w S → ∀ b, S b → b < w.heap.size

def Sat (w : World) : List HP → (Nat → Prop) → Prop
  | [], _ => True
  | A :: l, U => ∃ S : Nat → Prop, A.p w S ∧ (∀ b, S b → U b) ∧ Sat w l (fun b => U b ∧ ¬ S b)

theorem Sat.mono {w : World} : ∀ {l : List HP} {U U' : Nat → Prop}, Sat w l U → (∀ b, U b → U' b) → Sat w l U'
  | [], _, _, _, _ => trivial
  | _ :: _, _, _, ⟨S, h, hs, hl⟩, hu => ⟨S, h, fun b hb => hu b (hs b hb), hl.mono fun b hb => ⟨hu b hb.1, hb.2⟩⟩

theorem Sat.keep {w w' : World} (hz : w.heap.size ≤ w'.heap.size) : ∀ {l : List HP} {U : Nat → Prop}, Sat w l U → (∀ b, U b → b < w.heap.size → w'.heap[b]? = w.heap[b]?) → Sat w' l U
  | [], _, _, _ => trivial
  | A :: _, _, ⟨S, h, hs, hl⟩, hu => ⟨S, A.loc h hz (fun b hb => hu b (hs b hb) (A.lt h b hb)), hs, Sat.keep hz hl fun b hb hlt => hu b hb.1 hlt⟩

theorem Sat.inside {w : World} : ∀ {l : List HP} {U : Nat → Prop}, Sat w l U → Sat w l (fun b => U b ∧ b < w.heap.size)
  | [], _, _ => trivial
  | A :: _, _, ⟨S, h, hs, hl⟩ => ⟨S, h, fun b hb => ⟨hs b hb, A.lt h b hb⟩, (Sat.inside hl).mono fun _ hb => ⟨⟨hb.1.1, hb.2⟩, hb.1.2⟩⟩

theorem Sat.swap {w : World} {A B : HP} {l : List HP} {U : Nat → Prop} (h : Sat w (A :: B :: l) U) : Sat w (B :: A :: l) U := by
  obtain ⟨S, hA, hS, T, hB, hT, hl⟩ := h
  refine ⟨T, hB, fun b hb => (hT b hb).1, S, hA, fun b hb => ⟨hS b hb, fun ht => (hT b ht).2 hb⟩, Sat.mono hl fun b (hb : (U b ∧ ¬ S b) ∧ ¬ T b) => ⟨⟨hb.1.1, hb.2⟩, hb.1.2⟩⟩

theorem Sat.tail {w : World} {A : HP} {l : List HP} {U : Nat → Prop} (h : Sat w (A :: l) U) : Sat w l U := by
  obtain ⟨S, _, _, hl⟩ := h
  exact Sat.mono hl fun b (hb : U b ∧ ¬ S b) => hb.1

/-- Two lists: of the first one the blocks. -/
theorem Sat.split {w : World} : ∀ {l m : List HP} {U : Nat → Prop}, Sat w (l ++ m) U → ∃ V : Nat → Prop, (∀ b, V b → U b ∧ b < w.heap.size) ∧ Sat w l V ∧ Sat w m (fun b => U b ∧ ¬ V b)
  | [], m, U, h => ⟨fun _ => False, fun _ h => h.elim, trivial, Sat.mono (by simpa using h) fun b hb => ⟨hb, fun x => x⟩⟩
  | A :: l, m, U, ⟨S, hA, hS, hl⟩ => by
    obtain ⟨V, hV, h1, h2⟩ := Sat.split (l := l) hl
    refine ⟨fun b => S b ∨ V b, fun b hb => ?_, ⟨S, hA, fun b hb => .inl hb, h1.mono fun b hb => ⟨.inr hb, (hV b hb).1.2⟩⟩, h2.mono fun b hb => ⟨hb.1.1, fun x => x.elim hb.1.2 hb.2⟩⟩
    rcases hb with hb | hb
    · exact ⟨hS b hb, A.lt hA b hb⟩
    · exact ⟨(hV b hb).1.1, (hV b hb).2⟩

theorem Sat.join {w : World} : ∀ {l m : List HP} {U V : Nat → Prop}, Sat w l V → (∀ b, V b → U b) → Sat w m (fun b => U b ∧ ¬ V b) → Sat w (l ++ m) U
  | [], _, U, V, _, _, h => Sat.mono (U := fun b => U b ∧ ¬ V b) (by simpa using h) fun _ hb => hb.1
  | A :: l, m, U, V, ⟨S, hA, hS, hl⟩, hV, h => by
    refine ⟨S, hA, fun b hb => hV b (hS b hb), ?_⟩
    exact Sat.join (V := fun b => V b ∧ ¬ S b) hl (fun b hb => ⟨hV b hb.1, hb.2⟩) (h.mono fun b hb => ⟨⟨hb.1, fun x => hb.2 (hS b x)⟩, fun x => hb.2 x.1⟩)

/-- What follows from what, block by block. -/
def Ent (l m : List HP) : Prop := ∀ (w : World) (U : Nat → Prop), Sat w l U → Sat w m U
theorem Ent.refl (l : List HP) : Ent l l := fun _ _ h => h
theorem Ent.trans {l m k : List HP} (h : Ent l m) (g : Ent m k) : Ent l k := fun w U x => g w U (h w U x)
theorem Ent.nil (l : List HP) : Ent l [] := fun _ _ _ => trivial
theorem Ent.cons {A : HP} {l m : List HP} (h : Ent l m) : Ent (A :: l) (A :: m) := fun w _ ⟨S, a, b, c⟩ => ⟨S, a, b, h w _ c⟩
theorem Ent.drop {A : HP} {l m : List HP} (h : Ent l m) : Ent (A :: l) m := fun w U x => h w U x.tail
theorem Ent.swap {A B : HP} {l : List HP} : Ent (A :: B :: l) (B :: A :: l) := fun _ _ h => h.swap

/-- One part taken out of a list. -/
inductive Take1 : List HP → HP → List HP → Prop
  | here {A : HP} {l : List HP} : Take1 (A :: l) A l
  | there {A B : HP} {l m : List HP} : Take1 l A m → Take1 (B :: l) A (B :: m)
theorem Take1.ent {l m : List HP} {A : HP} (h : Take1 l A m) : Ent l (A :: m) := by
  induction h with
  | here => exact .refl _
  | there _ ih => exact (Ent.cons ih).trans .swap
inductive Take : List HP → List HP → List HP → Prop
  | nil {l : List HP} : Take l [] l
  | cons {l m k : List HP} {A : HP} {pre : List HP} : Take1 l A m → Take m pre k → Take l (A :: pre) k
theorem Take.ent {l pre k : List HP} (h : Take l pre k) : Ent l (pre ++ k) := by
  induction h with
  | nil => exact .refl _
  | cons h1 _ ih => exact h1.ent.trans (Ent.cons ih)
theorem Take.ent' {l pre k : List HP} (h : Take l pre k) : Ent l pre := by
  induction h with
  | nil => exact .nil _
  | cons h1 _ ih => exact h1.ent.trans (Ent.cons ih)

structure Chg (U : Nat → Prop) (w w' : World) : Prop where
  os : w'.os = w.os
  tape : w'.tape = w.tape
  output : w'.output = w.output
  size : w.heap.size ≤ w'.heap.size
  block : ∀ b, b < w.heap.size → ¬ U b → w'.heap[b]? = w.heap[b]?

theorem Chg.refl (U : Nat → Prop) (w : World) : Chg U w w := ⟨rfl, rfl, rfl, Nat.le_refl _, fun _ _ _ => rfl⟩
theorem Chg.of_below {U : Nat → Prop} {w w' : World} (h : Below w.heap.size w w') : Chg U w w' := ⟨h.os, h.tape, h.output, h.size, fun b hb _ => h.block b hb⟩
theorem Chg.mono {U V : Nat → Prop} {w w' : World} (h : Chg U w w') (hu : ∀ b, b < w.heap.size → U b → V b) : Chg V w w' := ⟨h.os, h.tape, h.output, h.size, fun b hb hn => h.block b hb fun x => hn (hu b hb x)⟩
theorem Chg.trans {U V : Nat → Prop} {w w1 w2 : World} (h : Chg U w w1) (k : Chg V w1 w2) (hv : ∀ b, b < w.heap.size → V b → U b) : Chg U w w2 :=
  ⟨k.os.trans h.os, k.tape.trans h.tape, k.output.trans h.output, Nat.le_trans h.size k.size, fun b hb hn => (k.block b (Nat.lt_of_lt_of_le hb h.size) fun x => hn (hv b hb x)).trans (h.block b hb hn)⟩

/-- The blocks that may be ours behind a step. -/
def Grow (U : Nat → Prop) (w : World) : Nat → Prop := fun b => U b ∨ w.heap.size ≤ b

/-- A step's world: the parts, and the old blocks. -/
def Out (l : List HP) (U : Nat → Prop) (w w' : World) : Prop := Sat w' l (Grow U w) ∧ Chg U w w'

theorem Out.refl {l : List HP} {U : Nat → Prop} {w : World} (h : Sat w l U) : Out l U w w := ⟨h.mono fun _ hb => .inl hb, .refl _ _⟩
theorem Out.ent {l m : List HP} {U : Nat → Prop} {w w' : World} (h : Out l U w w') (he : Ent l m) : Out m U w w' := ⟨he _ _ h.1, h.2⟩
theorem Out.then {l m : List HP} {U : Nat → Prop} {w w1 w2 : World} (h : Out l U w w1) (k : Out m (Grow U w) w1 w2) : Out m U w w2 := by
  refine ⟨k.1.mono fun b hb => ?_, h.2.trans k.2 fun b hb hg => ?_⟩
  · rcases hb with hb | hb
    · exact hb
    · exact .inr (Nat.le_trans h.2.size hb)
  · rcases hg with hg | hg
    · exact hg
    · omega

theorem Out.chg {l : List HP} {U : Nat → Prop} {w w' : World} (h : Sat w l U) (hb : Below w.heap.size w w') : Out l U w w' :=
  ⟨(Sat.keep hb.size h fun b _ hlt => hb.block b hlt).mono fun _ hb => .inl hb, .of_below hb⟩

/-- The rule of the frame: what was done with the first parts leaves the others. -/
theorem Out.frame {pre F : List HP} {U : Nat → Prop} {w : World} (h : Sat w (pre ++ F) U) :
    ∃ V : Nat → Prop, Sat w pre V ∧ ∀ l w', Out l V w w' → Out (l ++ F) U w w' := by
  obtain ⟨V, hV, h1, h2⟩ := h.split
  refine ⟨V, h1, fun l w' ⟨hs, hc⟩ => ⟨?_, hc.mono fun b _ hb => (hV b hb).1⟩⟩
  have h3 : Sat w' F (fun b => (U b ∧ ¬ V b) ∧ b < w.heap.size) := h2.inside.keep hc.size fun b hb hlt => hc.block b hlt hb.1.2
  refine Sat.join (V := Grow V w) hs (fun b hb => ?_) (h3.mono fun b hb => ?_)
  · rcases hb with hb | hb
    · exact .inl (hV b hb).1
    · exact .inr hb
  · refine ⟨.inl hb.1.1, fun x => ?_⟩
    rcases x with x | x
    · exact hb.1.2 x
    · exact absurd hb.2 (Nat.not_lt.2 x)

/-- Called so, with these parts at hand, it returns; R says of the value, and of the parts that are there then. -/
def Fn (P : Program) (f : FuncId) (args : Array Value) (pre : List HP) (R : Value → List HP → Prop) : Prop :=
  ∀ (w : World) (U : Nat → Prop), Sat w pre U → Calls P f args w fun e w' => ∃ v l, e = .returned v ∧ R v l ∧ Out l U w w'

theorem Fn.mono {P : Program} {f : FuncId} {args : Array Value} {pre : List HP} {R R' : Value → List HP → Prop} (h : Fn P f args pre R) (hr : ∀ v l, R v l → ∃ m, R' v m ∧ Ent l m) : Fn P f args pre R' :=
  fun w U hs => (h w U hs).mono fun _ _ ⟨v, l, e, r, o⟩ => let ⟨m, r', he⟩ := hr v l r; ⟨v, m, e, r', o.ent he⟩
theorem Fn.pre {P : Program} {f : FuncId} {args : Array Value} {pre pre' : List HP} {R : Value → List HP → Prop} (h : Fn P f args pre R) (he : Ent pre' pre) : Fn P f args pre' R :=
  fun w U hs => h w U (he w U hs)
theorem Fn.of_same {P : Program} {f : FuncId} {args : Array Value} {v : Value} (h : ∀ w, Calls P f args w fun e w' => e = .returned v ∧ w' = w) : Fn P f args [] (fun u l => u = v ∧ l = []) :=
  fun w _ _ => (h w).mono fun _ _ ⟨e, r⟩ => ⟨v, [], e, ⟨rfl, rfl⟩, trivial, by rw [r]; exact .refl _ _⟩

end Go.Proofs.YtggamdlpiejbiaaGreat
namespace Go.Proofs.YtggamdlpiejbiaaGreat
open Go.RowKit Go.Shelf

abbrev Fr := List (Nat × Value)
def lk : Fr → Nat → Option Value
  | [], _ => none
  | (k, v) :: l, t => cond (Nat.beq k t) (some v) (lk l t)
/-- How YO slots; the round that the activation is. -/
structure Cx where
  n : Nat
  ro : Option Nat
instance : Coe Cx Nat := ⟨Cx.n⟩
abbrev FR (ro : Option Nat) : Fence := { Fence.wide with round := ro }
def Holds (n : Cx) (D : List Deferred) (a : Act) (fr : Fr) : Prop := a.defers = D ∧ a.tmps.size = n ∧ ∀ t v, lk fr t = some v → a.tmps.getD t undef = v
def ev (fr : Fr) : Operand → Option Value
  | .tmp t => lk fr t
  | .const v => some v
  | .global g => some (.pointer (some ⟨g, 0, none⟩))
  | .func f => some (.func (.func f) #[] #[])

theorem Holds.ev {n : Cx} {D : List Deferred} {a : Act} {fr : Fr} (h : Holds n D a fr) {x : Operand} {v : Value} (hx : ev fr x = some v) : a.eval x = v := by
  cases x with
  | tmp t => exact h.2.2 t v hx
  | const u => exact Option.some.inj hx
  | global g => exact Option.some.inj hx
  | func f => exact Option.some.inj hx

theorem Holds.put {n : Cx} {D : List Deferred} {a : Act} {fr : Fr} (h : Holds n D a fr) {d : Nat} (hd : Nat.blt d n = true) (v : Value) : Holds n D (a.put (some d) v) ((d, v) :: fr) := by
  have hlt : d < n := Eq.mp Nat.blt_eq hd
  refine ⟨h.1, ?_, ?_⟩
  · simp [Act.put, h.2.1]
  · intro t u hu
    simp only [lk] at hu
    simp only [Act.put]
    by_cases e : d = t
    · subst e
      simp only [Nat.beq_refl, cond_true, Option.some.injEq] at hu
      subst hu
      simp [Array.getD, h.2.1, hlt]
    · have hb : Nat.beq d t = false := by
        cases hx : Nat.beq d t
        · rfl
        · exact absurd (Nat.eq_of_beq_eq_true hx) e
      rw [hb] at hu
      have := h.2.2 t u hu
      simp only [Array.getD, Array.size_setIfInBounds] at this ⊢
      split
      · rename_i hs
        rw [dif_pos hs] at this
        simp only [Array.getInternal_eq_getElem] at this ⊢
        rw [Array.getElem_setIfInBounds (by simpa using hs), if_neg e]; exact this
      · rename_i hs; rw [dif_neg hs] at this; exact this

def FrLe (fr : Fr) : Fr → Prop
  | [] => True
  | (t, v) :: r => lk fr t = some v ∧ FrLe fr r
theorem FrLe.lk {fr : Fr} : ∀ {gr : Fr}, FrLe fr gr → ∀ t v, lk gr t = some v → lk fr t = some v
  | [], _, _, _, h => by simp [Go.Proofs.YtggamdlpiejbiaaGreat.lk] at h
  | (k, u) :: gr, h, t, v, hv => by
    simp only [Go.Proofs.YtggamdlpiejbiaaGreat.lk] at hv
    cases hb : Nat.beq k t with
    | true => rw [hb] at hv; have := Nat.eq_of_beq_eq_true hb; subst this; simp only [cond_true, Option.some.injEq] at hv; subst hv; exact h.1
    | false => rw [hb] at hv; exact FrLe.lk h.2 t v hv
theorem Holds.le {n : Cx} {D : List Deferred} {a : Act} {fr gr : Fr} (h : Holds n D a fr) (hl : FrLe fr gr) : Holds n D a gr := ⟨h.1, h.2.1, fun t v hv => h.2.2 t v (hl.lk t v hv)⟩

abbrev Post := Exit → List Deferred → Fr → List HP → Prop
def After (n : Cx) (Q : Post) (U : Nat → Prop) (w : World) : Exit → Act → World → Prop := fun e a' w' => ∃ D' fr' l', Q e D' fr' l' ∧ Holds n D' a' fr' ∧ Out l' U w w'
def Wp (P : Program) (n : Cx) (D : List Deferred) (c : Code) (Q : Post) (fr : Fr) (l : List HP) : Prop := ∀ a w U, Holds n D a fr → Sat w l U → c.wpIn (FR n.ro) 0 P (After n Q U w) a w
def WpL (P : Program) (n : Cx) (D : List Deferred) (ops : Array Oper) (rest : List Oper) (Q : Post) (fr : Fr) (l : List HP) : Prop := ∀ a w U, Holds n D a fr → Sat w l U → wpListIn (FR n.ro) 0 P ops (After n Q U w) rest a w

section
variable {P : Program} {n : Cx} {D : List Deferred} {ops : Array Oper} {rest : List Oper} {Q Q' : Post} {fr gr : Fr} {l m : List HP}

theorem After.later {U : Nat → Prop} {w w1 : World} {l1 : List HP} (h : Out l1 U w w1) {e : Exit} {a : Act} {w2 : World} (k : After n Q (Grow U w) w1 e a w2) : After n Q U w e a w2 := by
  obtain ⟨D', fr', l', q, hh, ho⟩ := k
  exact ⟨D', fr', l', q, hh, h.then ho⟩
theorem After.mono {U : Nat → Prop} {w : World} (hq : ∀ e D fr l, Q e D fr l → Q' e D fr l) {e : Exit} {a : Act} {w2 : World} (k : After n Q U w e a w2) : After n Q' U w e a w2 := by
  obtain ⟨D', fr', l', q, hh, ho⟩ := k
  exact ⟨D', fr', l', hq _ _ _ _ q, hh, ho⟩

theorem ZR {ro : Option Nat} {ρ : Operand → Value} {o : Oper} {w w' : World} {x : Next} (h : (execOp ρ o).run P w = .ok x w') (hx : ∀ d, x ≠ .defer d) : (o.semAt ro ρ).run P w = .ok x w' := by
  by_cases hd : ∃ c, o.op = .defer c
  · obtain ⟨c, hc⟩ := hd
    exfalso
    unfold execOp at h
    rw [hc] at h
    simp only [Sem.run_bind] at h
    cases hr : (resolve ρ c o.type).run P w with
    | ok d w1 => rw [hr] at h; simp at h; exact hx _ h.1.symm
    | halt y w1 => rw [hr] at h; simp [Result.andThen] at h
  · rw [Oper.semAt_eq _ _ _ (fun c hc => hd ⟨c, hc⟩)]; exact h
theorem callsIn_FR {ro : Option Nat} {k : Nat} {f : FuncId} {args : Array Value} {w : World} {R : Ending → World → Prop} (h : Calls P f args w R) : CallsIn (FR ro) k P f args w R := by
  cases ro with
  | none => exact callsIn_wide.2 h
  | some l => exact CallsIn.inRound l (callsIn_wide.2 h)
theorem calls_FR {k : Nat} {f : FuncId} {args : Array Value} {w : World} {R : Ending → World → Prop} (h : CallsIn (FR none) k P f args w R) : Calls P f args w R := callsIn_wide.1 h
theorem op_mono {F : Fence} {k : Nat} {o : Oper} {a : Act} {w : World} {K K' : Act → World → Prop} {Q Q' : Exit → Act → World → Prop} (h : ∀ a w, K a w → K' a w) (hq : ∀ e a w, Q e a w → Q' e a w)
    (hh : o.wpIn F k P a w K Q) : o.wpIn F k P a w K' Q' := by
  unfold Oper.wpIn at *
  refine ⟨hh.1, ?_⟩
  have hh := hh.2
  generalize (o.semAt F.round a.eval).run P w = r at *
  cases r with
  | ok n w' =>
    cases n <;> simp only [Oper.uponIn] at hh ⊢ <;>
      first
        | exact h _ _ hh
        | exact ⟨hh.1, CallsIn.mono hh.2 (fun e w'' he => by cases e <;> first | exact h _ _ he | exact hq _ _ _ he | exact (let ⟨a, w, x⟩ := he; ⟨a, w, hq _ _ _ x⟩))⟩
        | exact ⟨hh.1, RoundIn.mono hh.2 (fun e w'' he => by cases e <;> first | exact h _ _ he | exact hq _ _ _ he | exact (let ⟨a, w, x⟩ := he; ⟨a, w, hq _ _ _ x⟩))⟩
        | exact ⟨hh.1, RowsIn.mono hh.2 (fun _ _ he => h _ _ he)⟩
  | halt x w' => cases x <;> simp only [Oper.uponIn] at hh ⊢ <;> first | exact hq _ _ _ hh | exact hh

theorem Yk {F : Fence} {k : Nat} {Q Q' : Exit → Act → World → Prop} (hq : ∀ e a w, Q e a w → Q' e a w) : ∀ (rest : List Oper) (a : Act) (w : World), wpListIn F k P ops Q rest a w → wpListIn F k P ops Q' rest a w
  | [], _, _, h => hq _ _ _ h
  | o :: rest, a, w, h => by
    unfold wpListIn at h ⊢
    split
    · rename_i hw
      rw [if_pos hw] at h
      exact op_mono (Yk hq rest) hq h
    · rename_i hw
      rw [if_neg hw] at h
      exact ⟨h.1, Yk hq rest _ _ h.2⟩

theorem Wp.mono (hq : ∀ e D fr l, Q e D fr l → Q' e D fr l) {c : Code} (h : Wp P n D c Q fr l) : Wp P n D c Q' fr l :=
  fun a w U hh hs => Go.wpIn_mono (h a w U hh hs) fun _ _ _ k => k.mono hq
theorem QO {c : Code} (hf : FrLe fr gr) (h : Wp P n D c Q gr l) : Wp P n D c Q fr l := fun a w U hh hs => h a w U (hh.le hf) hs
theorem WpL.ent (he : Ent l m) (h : WpL P n D ops rest Q fr m) : WpL P n D ops rest Q fr l := fun a w U hh hs => h a w U hh (he w U hs)
/-- A step's continuation, in the world behind it. -/
theorem WpL.go {a : Act} {w w1 : World} {U : Nat → Prop} {l1 : List HP} (k : WpL P n D ops rest Q gr l1) (hh : Holds n D a gr) (ho : Out l1 U w w1) : wpListIn (FR n.ro) 0 P ops (After n Q U w) rest a w1 :=
  Yk (fun _ _ _ x => After.later ho x) rest _ _ (k a w1 (Grow U w) hh ho.1)

def thn (K : List Deferred → Fr → List HP → Prop) (Q : Post) : Post
  | .normal, D, fr, l => K D fr l
  | e, D, fr, l => Q e D fr l
theorem Qb {x y : Code} (h : Wp P n D x (thn (fun D => Wp P n D y Q) Q) fr l) : Wp P n D (.seq x y) Q fr l := by
  intro a w U hh hs
  refine wpIn_seq (Go.wpIn_mono (h a w U hh hs) ?_)
  rintro e a1 w1 ⟨D1, fr1, l1, q, hh1, ho⟩
  cases e with
  | normal => exact Go.wpIn_mono (q a1 w1 (Grow U w) hh1 ho.1) fun _ _ _ k => k.later ho
  | _ => exact ⟨D1, fr1, l1, q, hh1, ho⟩
theorem Wp.skip (h : Q .normal D fr l) : Wp P n D .skip Q fr l := fun _ _ _ hh hs => wpIn_skip ⟨D, fr, l, h, hh, .refl hs⟩
theorem Qi (h : Q .ret D fr l) : Wp P n D .ret Q fr l := fun _ _ _ hh hs => wpIn_ret ⟨D, fr, l, h, hh, .refl hs⟩
theorem QM {id : Nat} (h : Q (.exit id) D fr l) : Wp P n D (.exit id) Q fr l := fun _ _ _ hh hs => wpIn_exit ⟨D, fr, l, h, hh, .refl hs⟩
theorem X5 {c : Operand} {x y : Code} {t : Bool} (hc : ev fr c = some (.bool t)) (h1 : t = true → Wp P n D x Q fr l) (h2 : t = false → Wp P n D y Q fr l) : Wp P n D (.cond c x y) Q fr l :=
  fun a w U hh hs => wpIn_cond_split (hh.ev hc) (fun e => h1 e a w U hh hs) (fun e => h2 e a w U hh hs)
theorem Xc {c : Operand} {x y : Code} (hc : ev fr c = some (.bool true)) (h1 : Wp P n D x Q fr l) : Wp P n D (.cond c x y) Q fr l := X5 hc (fun _ => h1) (fun e => nomatch e)
theorem QZ {c : Operand} {x y : Code} (hc : ev fr c = some (.bool false)) (h1 : Wp P n D y Q fr l) : Wp P n D (.cond c x y) Q fr l := X5 hc (fun e => nomatch e) (fun _ => h1)
theorem Ql {c : Operand} {x y : Code} {p : Prop} [Decidable p] (hc : ev fr c = some (.bool (decide p))) (h1 : p → Wp P n D x Q fr l) (h2 : ¬ p → Wp P n D y Q fr l) : Wp P n D (.cond c x y) Q fr l :=
  X5 hc (fun e => h1 (of_decide_eq_true e)) (fun e => h2 (of_decide_eq_false e))
def blkQ (id : Nat) (Q : Post) : Post
  | .exit k, D, fr, l => if k = id then Q .normal D fr l else Q (.exit k) D fr l
  | e, D, fr, l => Q e D fr l
theorem Wp.block {id : Nat} {c : Code} (h : Wp P n D c (blkQ id Q) fr l) : Wp P n D (.block id c) Q fr l := by
  intro a w U hh hs
  refine wpIn_block (Go.wpIn_mono (h a w U hh hs) ?_)
  rintro e a1 w1 ⟨D1, fr1, l1, q, hh1, ho⟩
  cases e with
  | exit k =>
    simp only [Exit.inBlock]
    by_cases hk : k = id
    · rw [if_pos hk]; exact ⟨D1, fr1, l1, by simpa [blkQ, hk] using q, hh1, ho⟩
    · rw [if_neg hk]; exact ⟨D1, fr1, l1, by simpa [blkQ, hk] using q, hh1, ho⟩
  | _ => exact ⟨D1, fr1, l1, q, hh1, ho⟩
theorem Qa {id : Nat} {os : List Oper} (h : WpL P n D os.toArray os Q fr l) : Wp P n D (.region id os.toArray false) Q fr l :=
  fun a w U hh hs => wpIn_region_lit (h a w U hh hs)
theorem WpL.nil (h : Q .normal D fr l) : WpL P n D ops [] Q fr l := fun _ _ _ hh hs => wpListIn_nil ⟨D, fr, l, h, hh, .refl hs⟩

theorem XR {σ : Sort _} {op : Op} {d ty : Nat} {pos : String} {aft : Array Edge} (hd : Nat.blt d n = true) (v : σ → Value) (L : σ → List HP)
    (h : ∀ a w U, Holds n D a fr → Sat w l U → ∃ x w', (execOp a.eval ⟨some d, op, ty, pos, aft, none⟩).run P w = .ok (.value (v x)) w' ∧ Out (L x) U w w')
    (k : ∀ x, WpL P n D ops rest Q ((d, v x) :: fr) (L x)) : WpL P n D ops (⟨some d, op, ty, pos, aft, none⟩ :: rest) Q fr l := by
  intro a w U hh hs
  obtain ⟨x, w', hr, ho⟩ := h a w U hh hs
  refine wpListIn_plain rfl fun K hK => ?_
  unfold Oper.wpIn
  rw [ZR hr (fun _ e => nomatch e)]
  exact ⟨fun _ _ => trivial, hK _ _ ((k x).go (hh.put hd _) ho)⟩
theorem WpL.val {op : Op} {d ty : Nat} {pos : String} {aft : Array Edge} (hd : Nat.blt d n = true) {v : Value}
    (h : ∀ a w U, Holds n D a fr → Sat w l U → (execOp a.eval ⟨some d, op, ty, pos, aft, none⟩).run P w = .ok (.value v) w)
    (k : WpL P n D ops rest Q ((d, v) :: fr) l) : WpL P n D ops (⟨some d, op, ty, pos, aft, none⟩ :: rest) Q fr l :=
  XR (σ := Unit) hd (fun _ => v) (fun _ => l) (fun a w U hh hs => ⟨(), w, h a w U hh hs, .refl hs⟩) (fun _ => k)
theorem WpL.skp {op : Op} {ty : Nat} {pos : String} {aft : Array Edge}
    (h : ∀ a w U, Holds n D a fr → Sat w l U → ∃ w', (execOp a.eval ⟨none, op, ty, pos, aft, none⟩).run P w = .ok .skip w' ∧ Out m U w w')
    (k : WpL P n D ops rest Q fr m) : WpL P n D ops (⟨none, op, ty, pos, aft, none⟩ :: rest) Q fr l := by
  intro a w U hh hs
  obtain ⟨w', hr, ho⟩ := h a w U hh hs
  refine wpListIn_plain rfl fun K hK => ?_
  unfold Oper.wpIn
  rw [ZR hr (fun _ e => nomatch e)]
  exact ⟨fun _ _ => trivial, hK _ _ (k.go hh ho)⟩

theorem yielded_of {a : Act} {ops : Array Oper} (hh : Holds n D a fr) {j dj : Nat} {t : Bool} (hj : (ops[j]?).bind (·.dst) = some dj) (hl : lk fr dj = some (.bool t)) : yielded ops a.tmps j = some t := by
  have h1 := hh.2.2 dj _ hl
  unfold yielded
  rw [hj]
  simp only [Option.bind_some]
  have h2 : a.tmps[dj]? = some (.bool t) := by
    simp only [Array.getD] at h1
    split at h1
    · rename_i hs; rw [Array.getElem?_eq_getElem hs]; exact congrArg some h1
    · simp [undef] at h1
  rw [h2]
theorem Qf {dst : Option Tmp} {op : Op} {ty : Nat} {pos : String} {aft : Array Edge} {j dj : Nat} {b : Bool} (hj : (ops[j]?).bind (·.dst) = some dj) (hl : lk fr dj = some (.bool b))
    (k : WpL P n D ops (⟨dst, op, ty, pos, aft, none⟩ :: rest) Q fr l) : WpL P n D ops (⟨dst, op, ty, pos, aft, some (j, b)⟩ :: rest) Q fr l := by
  intro a w U hh hs
  have h := k a w U hh hs
  unfold wpListIn at h ⊢
  rw [if_pos (by simp [Region.wanted])] at h
  rw [if_pos (by simp [Region.wanted, yielded_of hh hj hl])]
  exact h
theorem Qd {d : Nat} {op : Op} {ty : Nat} {pos : String} {aft : Array Edge} {j dj : Nat} {b c : Bool} (hd : Nat.blt d n = true) (hj : (ops[j]?).bind (·.dst) = some dj) (hl : lk fr dj = some (.bool c)) (hc : c ≠ b)
    (k : WpL P n D ops rest Q ((d, undef) :: fr) l) : WpL P n D ops (⟨some d, op, ty, pos, aft, some (j, b)⟩ :: rest) Q fr l := by
  intro a w U hh hs
  unfold wpListIn
  rw [if_neg (by simp [Region.wanted, yielded_of hh hj hl, hc])]
  exact ⟨fun _ _ => trivial, k _ w U (hh.put hd _) hs⟩
theorem Holds.know {a : Act} (hh : Holds n D a fr) {t : Nat} {v u : Value} (hl : lk fr t = some v) (e : v = u) : Holds n D a ((t, u) :: fr) := by
  refine ⟨hh.1, hh.2.1, fun k x hx => ?_⟩
  simp only [lk] at hx
  cases hb : Nat.beq t k with
  | true => rw [hb] at hx; have := Nat.eq_of_beq_eq_true hb; subst this; simp only [cond_true, Option.some.injEq] at hx; subst hx; rw [← e]; exact hh.2.2 _ _ hl
  | false => rw [hb] at hx; exact hh.2.2 _ _ hx
/-- A guard that is not known: both ways. -/
theorem QK {d : Nat} {op : Op} {ty : Nat} {pos : String} {aft : Array Edge} {j dj : Nat} {b t : Bool} (hd : Nat.blt d n = true) (hj : (ops[j]?).bind (·.dst) = some dj) (hl : lk fr dj = some (.bool t))
    (k1 : t = b → WpL P n D ops (⟨some d, op, ty, pos, aft, none⟩ :: rest) Q ((dj, .bool b) :: fr) l) (k2 : t = !b → WpL P n D ops rest Q ((d, undef) :: (dj, .bool (!b)) :: fr) l) :
    WpL P n D ops (⟨some d, op, ty, pos, aft, some (j, b)⟩ :: rest) Q fr l := by
  intro a w U hh hs
  by_cases e : t = b
  · exact Qf hj (by simp [lk]) (k1 e) a w U (hh.know hl (by rw [e])) hs
  · have e2 : t = !b := by cases t <;> cases b <;> simp_all
    exact Qd (c := !b) hd hj (by simp [lk]) (by cases b <;> simp) (k2 e2) a w U (hh.know hl (by rw [e2])) hs

theorem WpL.call {op : Op} {d ty : Nat} {pos : String} {aft : Array Edge} (hd : Nat.blt d n = true) (f : Nat) {args : Array Value} {pre F : List HP} {R : Value → List HP → Prop}
    (hx : ∀ a w, Holds n D a fr → (execOp a.eval ⟨some d, op, ty, pos, aft, none⟩).run P w = .ok (.enter f args) w) (c : Fn P f args pre R) (ht : Take l pre F)
    (k : ∀ v m, R v m → WpL P n D ops rest Q ((d, v) :: fr) (m ++ F)) : WpL P n D ops (⟨some d, op, ty, pos, aft, none⟩ :: rest) Q fr l := by
  intro a w U hh hs
  obtain ⟨V, hV, hfr⟩ := Out.frame (F := F) (ht.ent w U hs)
  refine wpListIn_plain rfl fun K hK => ?_
  unfold Oper.wpIn
  rw [ZR (hx a w hh) (fun _ e => nomatch e)]
  refine ⟨fun _ _ => trivial, fun h => (by simp [Fence.wide] at h), callsIn_FR (Calls.mono (c w V hV) ?_)⟩
  rintro e w' ⟨v, m, rfl, r, ho⟩
  exact hK _ _ ((k v m r).go (hh.put hd v) (hfr m w' ho))

def frOf : Nat → List Value → Fr
  | _, [] => []
  | i, v :: vs => (i, v) :: frOf (i + 1) vs
def Res (P : Program) (fn : Func) (fr : Fr) (l : List HP) (v : Value) : Prop := ∀ n D a w U, Holds n D a fr → Sat w l U → (results fn a.tmps).run P w = .ok v w
/-- A block that is no row of cells. -/
def ob (g : Nat) (o : Obj) : HP where
  p w S := (∀ b, S b ↔ b = g) ∧ w.heap[g]? = some o
  loc := fun ⟨hs, h⟩ _ hb => ⟨hs, (hb g ((hs g).2 rfl)).trans h⟩
  lt := fun ⟨hs, h⟩ b hb => by have := (hs b).1 hb; subst this; exact (Array.getElem?_eq_some_iff.1 h).1
theorem ob_at {w : World} {g : Nat} {o : Obj} {m : List HP} {U : Nat → Prop} (h : Sat w (ob g o :: m) U) : w.heap[g]? = some o := by
  obtain ⟨S, hp, _⟩ := h
  exact hp.2
theorem ob_put {w : World} {g : Nat} {o : Obj} {m : List HP} {U : Nat → Prop} (h : Sat w (ob g o :: m) U) (o' : Obj) : Out (ob g o' :: m) U w (w.putObj g o') := by
  have hlt : g < w.heap.size := (Array.getElem?_eq_some_iff.1 (ob_at h)).1
  obtain ⟨V, ⟨S, ⟨hS, hg⟩, hSV, _⟩, hfr⟩ := Out.frame (pre := [ob g o]) (F := m) h
  refine hfr [ob g o'] _ ⟨⟨S, ⟨hS, World.putObj_heap_same hlt⟩, fun b hb => .inl (hSV b hb), trivial⟩, rfl, rfl, rfl, by simp, fun b hb hn => ?_⟩
  exact World.putObj_heap_other fun e => hn (hSV b ((hS b).2 e))
theorem ob_new {w : World} {m : List HP} {U : Nat → Prop} (h : Sat w m U) (o : Obj) : Out (ob w.heap.size o :: m) U w (w.alloc o) := by
  have hb : Below w.heap.size w (w.alloc o) := (Below.refl _ _).alloc (Nat.le_refl _) _
  have h2 : Sat (w.alloc o) m (fun b => U b ∧ b < w.heap.size) := h.inside.keep hb.size fun b _ hlt => hb.block b hlt
  refine ⟨⟨fun b => b = w.heap.size, ⟨fun _ => Iff.rfl, World.alloc_heap_new _ _⟩, fun b hb => .inr (Nat.le_of_eq hb.symm), h2.mono fun b hb => ⟨.inl hb.1, fun e => ?_⟩⟩, .of_below hb⟩
  rw [e] at hb; exact absurd hb.2 (Nat.lt_irrefl _)
/-- The block for a loop's deferred calls, and its mark. -/
abbrev dfr (g : Nat) : HP := ob g (.deferred (some []))
abbrev mrk (g : Nat) : Deferred := { target := .collected g, args := #[] }
def RetQ (P : Program) (fn : Func) (R : Value → List HP → Prop) : Post
  | .normal, D, fr, l => ∃ (gs : List Nat) (l0 : List HP) (v : Value) (m : List HP), D = gs.map mrk ∧ Ent l (gs.map dfr ++ l0) ∧ Res P fn fr l0 v ∧ R v m ∧ Ent l0 m
  | .ret, D, fr, l => ∃ (gs : List Nat) (l0 : List HP) (v : Value) (m : List HP), D = gs.map mrk ∧ Ent l (gs.map dfr ++ l0) ∧ Res P fn fr l0 v ∧ R v m ∧ Ent l0 m
  | _, _, _, _ => False
theorem leaves_marks {F : Fence} {k : Nat} {fn : Func} {tmps : Array Value} {R : Ending → World → Prop} {l0 : List HP} {U : Nat → Prop} {w0 : World} : ∀ (gs : List Nat) (w : World), Out (gs.map dfr ++ l0) U w0 w →
    (∀ w', Out l0 U w0 w' → ∃ v, (results fn tmps).run P w' = .ok v w' ∧ R (.returned v) w') → LeavesInM F k P fn tmps R (gs.map mrk) .returning w
  | [], w, h, hr => hr w h
  | g :: gs, w, h, hr => by
    have h1 : Sat w (ob g (.deferred (some [])) :: (gs.map dfr ++ l0)) (Grow U w0) := h.1
    rw [List.map_cons]
    unfold LeavesInM
    refine ⟨(fun e => nomatch e), .inl ⟨g, _, rfl, run_takeDeferred (ob_at h1), ?_⟩⟩
    exact leaves_marks gs _ ((h.then (ob_put h1 _)).ent (Ent.drop (Ent.refl _))) hr

theorem frOf_lk (vs : List Value) : ∀ (i t : Nat) (v : Value), lk (frOf i vs) t = some v → i ≤ t ∧ vs[t - i]? = some v := by
  induction vs with
  | nil => intro i t v h; simp [frOf, lk] at h
  | cons u vs ih =>
    intro i t v h
    simp only [frOf, lk] at h
    cases hb : Nat.beq i t with
    | true => rw [hb] at h; have := Nat.eq_of_beq_eq_true hb; subst this; simpa using h
    | false =>
      rw [hb] at h
      obtain ⟨h1, h2⟩ := ih _ _ _ h
      refine ⟨by omega, ?_⟩
      have : t - i = (t - (i + 1)) + 1 := by omega
      rw [this]; simpa using h2

theorem Qk {f : FuncId} {fn : Func} {c : Code} {vs : List Value} {pre : List HP} {R : Value → List HP → Prop} (hf : P.funcs[f]? = some fn) (hb : fn.body = some c) {n : Nat} (hn : fn.ntmps = n) (hle : Nat.ble vs.length n = true)
  (h : Wp P ⟨n, none⟩ [] c (RetQ P fn R) (frOf 0 vs) pre) : Fn P f vs.toArray pre R := by
 intro w U hs
 have hle' : vs.length ≤ n := Eq.mp Nat.ble_eq hle
 refine calls_FR (k := 0) (callsIn_of_wp_marks hf hb trivial ?_)
 have hh : Holds ⟨n, none⟩ [] { tmps := vs.toArray ++ Array.replicate (fn.ntmps - vs.toArray.size) undef, defers := [] } (frOf 0 vs) := by
  refine ⟨rfl, by simp [hn]; omega, fun t v hv => ?_⟩
  obtain ⟨_, h2⟩ := frOf_lk vs 0 t v hv
  simp only [Nat.sub_zero] at h2
  have hlt : t < vs.length := (List.getElem?_eq_some_iff.1 h2).1
  have h3 : vs[t] = v := (List.getElem?_eq_some_iff.1 h2).2
  simp only [Array.getD, Array.size_append, List.size_toArray, Array.size_replicate]
  rw [dif_pos (by omega)]
  simp only [Array.getInternal_eq_getElem]
  rw [Array.getElem_append_left (by simpa using hlt)]
  simpa using h3
 refine Go.wpIn_mono (h _ w U hh hs) ?_
 have key : ∀ (e : Exit) (a' : Act) (w' : World), (∃ (gs : List Nat) (l0 : List HP) (v : Value) (m : List HP) (fr' : Fr) (l' : List HP), Holds ⟨n, none⟩ (gs.map mrk) a' fr' ∧ Out l' U w w' ∧ Ent l' (gs.map dfr ++ l0) ∧ Res P fn fr' l0 v ∧ R v m ∧ Ent l0 m) →
   LeavesInM (FR none) 0 P fn a'.tmps (fun e w' => ∃ v l, e = .returned v ∧ R v l ∧ Out l U w w') a'.defers .returning w' := by
  rintro e a' w' ⟨gs, l0, v, m, fr', l', hh', ho, he, hr, r, hm⟩
  rw [hh'.1]
  refine leaves_marks gs w' (ho.ent he) fun w2 ho2 => ?_
  exact ⟨v, hr ⟨n, none⟩ _ a' w2 _ hh' ho2.1, v, m, rfl, r, ho2.ent hm⟩
 rintro e a' w' ⟨D', fr', l', q, hh', ho⟩
 cases e with
 | normal => obtain ⟨gs, l0, v, m, rfl, he, hr, r, hm⟩ := q; exact key .normal a' w' ⟨gs, l0, v, m, fr', l', hh', ho, he, hr, r, hm⟩
 | ret => obtain ⟨gs, l0, v, m, rfl, he, hr, r, hm⟩ := q; exact key .normal a' w' ⟨gs, l0, v, m, fr', l', hh', ho, he, hr, r, hm⟩
 | _ => exact q.elim

theorem XZ {fn : Func} (h : fn.results = #[]) : Res P fn fr l (.tuple #[]) := fun _ _ _ _ _ _ _ => results_none h _ _ _
theorem Res.one {fn : Func} {t : Nat} {v : Value} (h : fn.results = #[.tmp t]) (hv : lk fr t = some v) : Res P fn fr l v := fun _ _ a w _ hh _ => by
  rw [results_tmp h, hh.2.2 _ _ hv]
theorem QB {fn : Func} {t u : Nat} {v x : Value} (h : fn.results = #[.tmp t, .tmp u]) (hv : lk fr t = some v) (hx : lk fr u = some x) : Res P fn fr l (.tuple #[v, x]) := fun _ _ a w _ hh _ => by
  rw [results_tmp2 h, hh.2.2 _ _ hv, hh.2.2 _ _ hx]
theorem Res.three {fn : Func} {t u r : Nat} {v x y : Value} (h : fn.results = #[.tmp t, .tmp u, .tmp r]) (hv : lk fr t = some v) (hx : lk fr u = some x) (hy : lk fr r = some y) : Res P fn fr l (.tuple #[v, x, y]) := fun _ _ a w _ hh _ => by
  have e : (results fn a.tmps).run P w = .ok (.tuple #[a.tmps.getD t undef, a.tmps.getD u undef, a.tmps.getD r undef]) w := by simp [results, h]
  rw [e, hh.2.2 _ _ hv, hh.2.2 _ _ hx, hh.2.2 _ _ hy]
end
end Go.Proofs.YtggamdlpiejbiaaGreat
namespace Go.Proofs.YtggamdlpiejbiaaGreat
open Go.RowKit Go.Shelf

def QA (g : Nat) (cs : List Value) (T : Nat) : HP where
  p w S := (∀ b, S b ↔ b = g) ∧ w.heap[g]? = some (.cells cs.toArray T (0, 0))
  loc := fun ⟨hs, h⟩ _ hb => ⟨hs, (hb g ((hs g).2 rfl)).trans h⟩
  lt := fun ⟨hs, h⟩ b hb => by have := (hs b).1 hb; subst this; exact (Array.getElem?_eq_some_iff.1 h).1

/-- A row of one's QG: n elements of s cells each, of the type T. -/
def QG (T s : Nat) (a : Option Addr) (c n : Nat) (xs : List Value) : HP where
  p w S := (∀ b, S b ↔ ∃ ad, a = some ad ∧ b = ad.block) ∧ w.ownsRow 0 T s (.slice a n c) n xs
  loc := by
    rintro w w' S ⟨hs, h⟩ hz hb
    refine ⟨hs, h.1, ?_⟩
    rcases h.2 with h2 | ⟨g, cap, cur, e, hg, hh, rest⟩
    · exact .inl h2
    · refine .inr ⟨g, cap, cur, e, hg, ?_, rest⟩
      injection e with e1 e2 e3
      rw [hb g ((hs g).2 ⟨_, e1, rfl⟩)]
      exact hh
  lt := by
    rintro w S ⟨hs, h⟩ b hb
    obtain ⟨ad, e, rfl⟩ := (hs b).1 hb
    exact (h.lt ad.block (by rw [e]; rfl)).2

theorem own_nil (w : World) (T s c : Nat) (U : Nat → Prop) (l : List HP) (h : Sat w l U) (hc : c = 0) : Sat w (QG T s none c 0 [] :: l) U := by
  subst hc
  exact ⟨fun _ => False, ⟨fun b => ⟨fun x => x.elim, fun ⟨ad, e, _⟩ => nomatch e⟩, World.ownsRow_nil w 0 T s⟩, fun _ x => x.elim, h.mono fun b hb => ⟨hb, fun x => x⟩⟩
theorem Ent.own_nil {T s : Nat} {l m : List HP} (h : Ent l m) : Ent l (QG T s none 0 0 [] :: m) := fun w U x => Go.Proofs.YtggamdlpiejbiaaGreat.own_nil w T s 0 U m (h w U x) rfl

/-- A block among the parts. -/
class HasBlk (l : List HP) (g : Nat) (cs : outParam (List Value)) (T : outParam Nat) : Prop where
  take : ∃ m, Take1 l (QA g cs T) m
instance HasBlk.here {g : Nat} {cs : List Value} {T : Nat} {l : List HP} : HasBlk (QA g cs T :: l) g cs T := ⟨_, .here⟩
instance (priority := low) HasBlk.there {A : HP} {g : Nat} {cs : List Value} {T : Nat} {l : List HP} [h : HasBlk l g cs T] : HasBlk (A :: l) g cs T := let ⟨m, t⟩ := h.take; ⟨A :: m, .there t⟩
theorem HasBlk.sat {l : List HP} {g T : Nat} {cs : List Value} (h : HasBlk l g cs T) {w : World} {U : Nat → Prop} (hs : Sat w l U) : w.heap[g]? = some (.cells cs.toArray T (0, 0)) := by
  obtain ⟨m, t⟩ := h.take
  obtain ⟨S, hp, _⟩ := t.ent w U hs
  exact hp.2
/-- The same parts, with other cells in a block. -/
class SetBlk (l : List HP) (g : Nat) (cs' : List Value) (l' : outParam (List HP)) : Prop where
  take : ∃ m cs T, Take1 l (QA g cs T) m ∧ Ent (QA g cs' T :: m) l' ∧ cs.length = cs'.length
class SameLen (cs ds : List Value) : Prop where
  eq : cs.length = ds.length
instance SameLen.nil : SameLen [] [] := ⟨rfl⟩
instance SameLen.cons {c d : Value} {cs ds : List Value} [h : SameLen cs ds] : SameLen (c :: cs) (d :: ds) := ⟨by simp [h.eq]⟩
instance SetBlk.here {g : Nat} {cs cs' : List Value} {T : Nat} {l : List HP} [h : SameLen cs cs'] : SetBlk (QA g cs T :: l) g cs' (QA g cs' T :: l) := ⟨l, cs, T, .here, .refl _, h.eq⟩
instance (priority := low) SetBlk.there {A : HP} {g : Nat} {cs' : List Value} {l l' : List HP} [h : SetBlk l g cs' l'] : SetBlk (A :: l) g cs' (A :: l') :=
  let ⟨m, cs, T, t, e, hl⟩ := h.take; ⟨A :: m, cs, T, .there t, Ent.swap.trans (Ent.cons e), hl⟩
class SetNth (cs : List Value) (o : Nat) (v : Value) (cs' : outParam (List Value)) : Prop where
  eq : cs' = cs.set o v ∧ o < cs.length
instance SetNth.zero {c v : Value} {cs : List Value} : SetNth (c :: cs) 0 v (v :: cs) := ⟨by simp⟩
instance SetNth.succ {c v : Value} {cs cs' : List Value} {o : Nat} [h : SetNth cs o v cs'] : SetNth (c :: cs) (o + 1) v (c :: cs') := ⟨by simp [h.eq.1]; exact h.eq.2⟩

class Scal (P : Program) (T : Nat) : Prop where
  agg : ∀ w, (isAgg T).run P w = .ok false w
  size : ∀ w, (sizeOf T).run P w = .ok 1 w
class AggT (P : Program) (T : Nat) (k : outParam Nat) : Prop where
  agg : ∀ w, (isAgg T).run P w = .ok true w
  size : ∀ w, (sizeOf T).run P w = .ok k w
class FOff (P : Program) (T k : Nat) (off : outParam Nat) : Prop where
  run : ∀ g o w, (Instr.fieldAt T (.pointer (some ⟨g, o, none⟩)) k).run P w = .ok (.pointer (some ((⟨g, o, none⟩ : Addr).add off))) w
class FVal (P : Program) (T k : Nat) (off : outParam Nat) : Prop where
  run : ∀ (cs : Array Value) v w, cs[off]? = some v → (Instr.field T (.agg cs) k).run P w = .ok v w
class ZeroT (P : Program) (T : Nat) (z : outParam (List Value)) : Prop where
  run : ∀ w, (zeroValue T).run P w = .ok (.agg z.toArray) w ∨ ∃ v, (zeroValue T).run P w = .ok v w ∧ v.cells = z.toArray
class SlT (P : Program) (t : Nat) (e size bytes : outParam Nat) (z : outParam Value) : Prop where
  hu : P.underlying t = some (.slice e)
  hi : (P.info? e).map (fun i => (i.zero, i.size, i.bytes)) = some (some z, size, bytes)
class IntT (P : Program) (T : Nat) (k : outParam IntKind) : Prop where
  hu : P.underlying T = some (.int k)
class Ent1 (P : Program) (f : Nat) : Prop where
  run : Enters P f

section
variable {P : Program} {n : Cx} {D : List Deferred} {ops : Array Oper} {rest : List Oper} {Q : Post} {fr : Fr} {l m : List HP} {ty : Nat} {pos : String} {aft : Array Edge}

theorem ZY (g o k : Nat) : (⟨g, o, none⟩ : Addr).add k = ⟨g, o + k, none⟩ := by unfold Addr.add; split <;> simp_all

theorem Qc {d : Nat} {x : Operand} {v : Value} (hd : Nat.blt d n = true) (hx : ev fr x = some v) (k : WpL P n D ops rest Q ((d, v) :: fr) l) : WpL P n D ops (⟨some d, .move x, ty, pos, aft, none⟩ :: rest) Q fr l :=
  WpL.val hd (fun a w _ hh _ => by simp [execOp, hh.ev hx]) k
theorem Qe {d : Nat} {x : Operand} {v : Value} (hd : Nat.blt d n = true) (hx : ev fr x = some v) (k : WpL P n D ops rest Q ((d, v) :: fr) l) : WpL P n D ops (⟨some d, .assign x, ty, pos, aft, none⟩ :: rest) Q fr l :=
  WpL.val hd (fun a w _ hh _ => by simp [execOp, hh.ev hx]) k
theorem Qt {d : Nat} {c x y : Operand} {v : Value} (hd : Nat.blt d n = true) (hc : ev fr c = some (.bool true)) (hx : ev fr x = some v) (k : WpL P n D ops rest Q ((d, v) :: fr) l) : WpL P n D ops (⟨some d, .pick c x y, ty, pos, aft, none⟩ :: rest) Q fr l :=
  WpL.val hd (fun a w _ hh _ => by simp [execOp, hh.ev hx, hh.ev hc, asBool]) k
theorem Qs {d : Nat} {c x y : Operand} {v : Value} (hd : Nat.blt d n = true) (hc : ev fr c = some (.bool false)) (hy : ev fr y = some v) (k : WpL P n D ops rest Q ((d, v) :: fr) l) : WpL P n D ops (⟨some d, .pick c x y, ty, pos, aft, none⟩ :: rest) Q fr l :=
  WpL.val hd (fun a w _ hh _ => by simp [execOp, hh.ev hy, hh.ev hc, asBool]) k
theorem Qq {d : Nat} {x : Operand} {ad : Addr} (hd : Nat.blt d n = true) (hx : ev fr x = some (.pointer (some ad))) (k : WpL P n D ops rest Q ((d, .pointer (some ad)) :: fr) l) : WpL P n D ops (⟨some d, .nilCheck x, ty, pos, aft, none⟩ :: rest) Q fr l :=
  WpL.val hd (fun a w _ hh _ => by simp [execOp, hh.ev hx]) k
theorem QH {d i : Nat} {x : Operand} {vs : List Value} {v : Value} (hd : Nat.blt d n = true) (hx : ev fr x = some (.tuple vs.toArray)) (hv : vs[i]? = some v) (k : WpL P n D ops rest Q ((d, v) :: fr) l) : WpL P n D ops (⟨some d, .extract x i, ty, pos, aft, none⟩ :: rest) Q fr l :=
  WpL.val hd (fun a w _ hh _ => by simp [execOp, hh.ev hx, Instr.extract, hv]) k
theorem Zq {d T : Nat} {x : Operand} {b : Bool} (hd : Nat.blt d n = true) (hx : ev fr x = some (.bool b)) (k : WpL P n D ops rest Q ((d, .bool (!b)) :: fr) l) : WpL P n D ops (⟨some d, .unOp .not T x, ty, pos, aft, none⟩ :: rest) Q fr l :=
  WpL.val hd (fun a w _ hh _ => by simp [execOp, hh.ev hx, Op.unary]) k
theorem s_mkf {d f : Nat} {xs : List Operand} {vs : List Value} (hd : Nat.blt d n = true) (hx : ∀ a, Holds n D a fr → (xs.map a.eval) = vs) (k : WpL P n D ops rest Q ((d, .func (.func f) #[] vs.toArray) :: fr) l) :
    WpL P n D ops (⟨some d, .makeFunc (.func f) #[] xs.toArray, ty, pos, aft, none⟩ :: rest) Q fr l :=
  WpL.val hd (fun a w _ hh _ => by simp [execOp, ← hx a hh, Instr.makeFunc]) k

theorem s_bin {d T T2 : Nat} {op : BinOp} {x y : Operand} {kk : IntKind} {i j : Int} {v : Value} (hd : Nat.blt d n = true) (hx : ev fr x = some (.int kk i)) (hy : ev fr y = some (.int kk j))
    (hr : ∀ w, (binOp op T (.int kk i) (.int kk j)).run P w = .ok v w) (k : WpL P n D ops rest Q ((d, v) :: fr) l) : WpL P n D ops (⟨some d, .binOp op T x y T2, ty, pos, aft, none⟩ :: rest) Q fr l :=
  WpL.val hd (fun a w _ hh _ => by simp [execOp, hh.ev hx, hh.ev hy, eqGuard, hr]) k
theorem QD {d T T2 : Nat} {x y : Operand} {kk : IntKind} {i j : Int} (hd : Nat.blt d n = true) (hx : ev fr x = some (.int kk i)) (hy : ev fr y = some (.int kk j)) (hw : kk.wrap (i + j) = i + j)
    (k : WpL P n D ops rest Q ((d, .int kk (i + j)) :: fr) l) : WpL P n D ops (⟨some d, .binOp .add T x y T2, ty, pos, aft, none⟩ :: rest) Q fr l :=
  s_bin hd hx hy (fun w => by simp [binOp, Op.intArith, hw]) k
theorem ZQ {d T T2 : Nat} {x y : Operand} {kk : IntKind} {i j : Int} (hd : Nat.blt d n = true) (hx : ev fr x = some (.int kk i)) (hy : ev fr y = some (.int kk j)) (hw : kk.wrap (i - j) = i - j)
    (k : WpL P n D ops rest Q ((d, .int kk (i - j)) :: fr) l) : WpL P n D ops (⟨some d, .binOp .sub T x y T2, ty, pos, aft, none⟩ :: rest) Q fr l :=
  s_bin hd hx hy (fun w => by simp [binOp, Op.intArith, hw]) k
theorem XK {d T T2 : Nat} {x y : Operand} {kk : IntKind} {i j : Int} (hd : Nat.blt d n = true) (hx : ev fr x = some (.int kk i)) (hy : ev fr y = some (.int kk j)) (hw : kk.wrap (i * j) = i * j)
    (k : WpL P n D ops rest Q ((d, .int kk (i * j)) :: fr) l) : WpL P n D ops (⟨some d, .binOp .mul T x y T2, ty, pos, aft, none⟩ :: rest) Q fr l :=
  s_bin hd hx hy (fun w => by simp [binOp, Op.intArith, hw]) k
theorem QN {d T T2 : Nat} {x y : Operand} {kk : IntKind} {i j : Int} (hd : Nat.blt d n = true) (hx : ev fr x = some (.int kk i)) (hy : ev fr y = some (.int kk j))
    (k : WpL P n D ops rest Q ((d, .bool (decide (i = j))) :: fr) l) : WpL P n D ops (⟨some d, .binOp .eql T x y T2, ty, pos, aft, none⟩ :: rest) Q fr l :=
  s_bin hd hx hy (fun w => by simp [binOp, Op.intCmp]; rfl) k
theorem Xn {d T T2 : Nat} {x y : Operand} {kk : IntKind} {i j : Int} (hd : Nat.blt d n = true) (hx : ev fr x = some (.int kk i)) (hy : ev fr y = some (.int kk j))
    (k : WpL P n D ops rest Q ((d, .bool (decide (i ≠ j))) :: fr) l) : WpL P n D ops (⟨some d, .binOp .neq T x y T2, ty, pos, aft, none⟩ :: rest) Q fr l :=
  s_bin hd hx hy (fun w => by simp [binOp, Op.intCmp]; rfl) k
theorem Q7 {d T T2 : Nat} {x y : Operand} {kk : IntKind} {i j : Int} (hd : Nat.blt d n = true) (hx : ev fr x = some (.int kk i)) (hy : ev fr y = some (.int kk j))
    (k : WpL P n D ops rest Q ((d, .bool (decide (i < j))) :: fr) l) : WpL P n D ops (⟨some d, .binOp .lss T x y T2, ty, pos, aft, none⟩ :: rest) Q fr l :=
  s_bin hd hx hy (fun w => by simp [binOp, Op.intCmp]) k
theorem s_le {d T T2 : Nat} {x y : Operand} {kk : IntKind} {i j : Int} (hd : Nat.blt d n = true) (hx : ev fr x = some (.int kk i)) (hy : ev fr y = some (.int kk j))
    (k : WpL P n D ops rest Q ((d, .bool (decide (i ≤ j))) :: fr) l) : WpL P n D ops (⟨some d, .binOp .leq T x y T2, ty, pos, aft, none⟩ :: rest) Q fr l :=
  s_bin hd hx hy (fun w => by simp [binOp, Op.intCmp]) k
theorem Zm {d T T2 : Nat} {x y : Operand} {kk : IntKind} {i j : Int} (hd : Nat.blt d n = true) (hx : ev fr x = some (.int kk i)) (hy : ev fr y = some (.int kk j))
    (k : WpL P n D ops rest Q ((d, .bool (decide (j < i))) :: fr) l) : WpL P n D ops (⟨some d, .binOp .gtr T x y T2, ty, pos, aft, none⟩ :: rest) Q fr l :=
  s_bin hd hx hy (fun w => by simp [binOp, Op.intCmp]) k
theorem s_ge {d T T2 : Nat} {x y : Operand} {kk : IntKind} {i j : Int} (hd : Nat.blt d n = true) (hx : ev fr x = some (.int kk i)) (hy : ev fr y = some (.int kk j))
    (k : WpL P n D ops rest Q ((d, .bool (decide (j ≤ i))) :: fr) l) : WpL P n D ops (⟨some d, .binOp .geq T x y T2, ty, pos, aft, none⟩ :: rest) Q fr l :=
  s_bin hd hx hy (fun w => by simp [binOp, Op.intCmp]) k
/-- x / y of numbers that are not below 0. -/
theorem ZG {d T T2 : Nat} {x y : Operand} {kk : IntKind} {i j : Int} (hd : Nat.blt d n = true) (hx : ev fr x = some (.int kk i)) (hy : ev fr y = some (.int kk j)) (h0 : 0 ≤ i) (h1 : 0 < j) (hw : kk.wrap (i / j) = i / j)
    (k : WpL P n D ops rest Q ((d, .int kk (i / j)) :: fr) l) : WpL P n D ops (⟨some d, .binOp .quo T x y T2, ty, pos, aft, none⟩ :: rest) Q fr l :=
  s_bin hd hx hy (fun w => by simp [binOp, Op.intDiv, Int.tdiv_eq_ediv_of_nonneg h0, hw, Int.ne_of_gt h1]) k
theorem YV {d T T2 : Nat} {x y : Operand} {kk : IntKind} {i j : Int} (hd : Nat.blt d n = true) (hx : ev fr x = some (.int kk i)) (hy : ev fr y = some (.int kk j)) (h0 : 0 ≤ i) (h1 : 0 < j)
    (k : WpL P n D ops rest Q ((d, .int kk (i % j)) :: fr) l) : WpL P n D ops (⟨some d, .binOp .rem T x y T2, ty, pos, aft, none⟩ :: rest) Q fr l :=
  s_bin hd hx hy (fun w => by simp [binOp, Op.intDiv, Int.tmod_eq_emod_of_nonneg h0, Int.ne_of_gt h1]) k
theorem s_remt {d T T2 : Nat} {x y : Operand} {kk : IntKind} {i j : Int} (hd : Nat.blt d n = true) (hx : ev fr x = some (.int kk i)) (hy : ev fr y = some (.int kk j)) (h1 : j ≠ 0)
    (k : WpL P n D ops rest Q ((d, .int kk (i.tmod j)) :: fr) l) : WpL P n D ops (⟨some d, .binOp .rem T x y T2, ty, pos, aft, none⟩ :: rest) Q fr l :=
  s_bin hd hx hy (fun w => by simp [binOp, Op.intDiv, h1]) k
theorem Yg {d S T : Nat} {x : Operand} {k1 k2 : IntKind} {i : Int} {Dt : TypeDesc} (hd : Nat.blt d n = true) (hS : P.underlying S = some Dt) [hT : IntT P T k2] (hx : ev fr x = some (.int k1 i)) (hw : k2.wrap i = i)
    (k : WpL P n D ops rest Q ((d, .int k2 i) :: fr) l) : WpL P n D ops (⟨some d, .convert S T x, ty, pos, aft, none⟩ :: rest) Q fr l :=
  WpL.val hd (fun a w _ hh _ => by simp [execOp, hh.ev hx, convert, run_underlying hS, run_underlying hT.hu, Conv.intToInt, hw]) k
theorem s_cviw {d S T : Nat} {x : Operand} {k1 k2 : IntKind} {i : Int} {Dt : TypeDesc} (hd : Nat.blt d n = true) (hS : P.underlying S = some Dt) [hT : IntT P T k2] (hx : ev fr x = some (.int k1 i))
    (k : WpL P n D ops rest Q ((d, .int k2 (k2.wrap i)) :: fr) l) : WpL P n D ops (⟨some d, .convert S T x, ty, pos, aft, none⟩ :: rest) Q fr l :=
  WpL.val hd (fun a w _ hh _ => by simp [execOp, hh.ev hx, convert, run_underlying hS, run_underlying hT.hu, Conv.intToInt]) k

theorem Qj {d T f off g o o2 : Nat} {x : Operand} (hd : Nat.blt d n = true) [hf : FOff P T f off] (hx : ev fr x = some (.pointer (some ⟨g, o, none⟩))) (ho : o + off = o2)
    (k : WpL P n D ops rest Q ((d, .pointer (some ⟨g, o2, none⟩)) :: fr) l) : WpL P n D ops (⟨some d, .fieldAddr T x f, ty, pos, aft, none⟩ :: rest) Q fr l :=
  WpL.val hd (fun a w _ hh _ => by simp only [execOp, hh.ev hx, Sem.run_bind, hf.run, Result.andThen_ok, ZY, ho]; rfl) k
theorem Qo {d T T2 g o : Nat} {x : Operand} {cs : List Value} {v : Value} (hd : Nat.blt d n = true) [hT : Scal P T] (hx : ev fr x = some (.pointer (some ⟨g, o, none⟩))) [hb : HasBlk l g cs T2] (hv : cs[o]? = some v)
    (k : WpL P n D ops rest Q ((d, v) :: fr) l) : WpL P n D ops (⟨some d, .load T x, ty, pos, aft, none⟩ :: rest) Q fr l :=
  WpL.val hd (fun a w U hh hs => by
    have hc : w.cell? ⟨g, o, none⟩ = some v := (cell_of_row w g o _ _ _ (hb.sat hs)).trans (by simpa using hv)
    simp [execOp, hh.ev hx, Instr.loadAt, Instr.sureAddr, loadVar, hT.agg, run_load, hc]) k
theorem drop_at (cs vs : List Value) (o : Nat) (h : (cs.drop o).take vs.length = vs) (j : Nat) (v : Value) (hj : vs[j]? = some v) : cs[o + j]? = some v := by
  rw [← h, List.getElem?_take] at hj
  split at hj
  · rwa [List.getElem?_drop] at hj
  · cases hj
/-- A struct out of its cells. -/
theorem QI {d T T2 g o kk : Nat} {x : Operand} {cs vs : List Value} (hd : Nat.blt d n = true) [hT : AggT P T kk] (hx : ev fr x = some (.pointer (some ⟨g, o, none⟩))) [hb : HasBlk l g cs T2] (hn : vs.length = kk) (hv : (cs.drop o).take vs.length = vs)
    (k : WpL P n D ops rest Q ((d, .agg vs.toArray) :: fr) l) : WpL P n D ops (⟨some d, .load T x, ty, pos, aft, none⟩ :: rest) Q fr l :=
  WpL.val hd (fun a w U hh hs => by
    have hc : ∀ j v, vs[j]? = some v → w.cell? ((⟨g, o, none⟩ : Addr).add j) = some v := fun j v hj => by
      rw [ZY, cell_of_row w g _ _ _ _ (hb.sat hs)]; simpa using drop_at cs vs o hv j v hj
    have := run_loadCells_list (P := P) w ⟨g, o, none⟩ vs hc
    rw [hn] at this
    simp [execOp, hh.ev hx, Instr.loadAt, Instr.sureAddr, loadVar, hT.agg, hT.size, this]) k
theorem s_fv {d T f off : Nat} {x : Operand} {vs : List Value} {v : Value} (hd : Nat.blt d n = true) [hf : FVal P T f off] (hx : ev fr x = some (.agg vs.toArray)) (hv : vs[off]? = some v)
    (k : WpL P n D ops rest Q ((d, v) :: fr) l) : WpL P n D ops (⟨some d, .field T x f, ty, pos, aft, none⟩ :: rest) Q fr l :=
  WpL.val hd (fun a w U hh hs => by simp [execOp, hh.ev hx, hf.run vs.toArray v w (by simpa using hv)]) k

theorem sat_set {w : World} {U : Nat → Prop} {g : Nat} {cs : List Value} {T : Nat} {F : List HP} (h : Sat w (QA g cs T :: F) U) (o : Nat) (v : Value) :
    Out (QA g (cs.set o v) T :: F) U w (w.setCell ⟨g, o, none⟩ v) := by
  obtain ⟨V, ⟨S, ⟨hS, hg⟩, hSV, _⟩, hfr⟩ := Out.frame (pre := [QA g cs T]) (F := F) h
  refine hfr [QA g (cs.set o v) T] _ ⟨⟨S, ⟨hS, ?_⟩, fun b hb => .inl (hSV b hb), trivial⟩, ?_⟩
  · have := heap_setCell_same w g o cs.toArray T v hg
    simpa using this
  · refine ⟨rfl, rfl, rfl, by simp, fun b hb hn => heap_setCell_other w _ b v fun e => hn (hSV b ((hS b).2 e))⟩
theorem Q3 {T g o : Nat} {x y : Operand} {cs cs' : List Value} {T2 : Nat} {v : Value} {l' : List HP} [hT : Scal P T] (hx : ev fr x = some (.pointer (some ⟨g, o, none⟩))) (hy : ev fr y = some v) (h1 : v.oneCell' = true)
    [hb : HasBlk l g cs T2] [hn : SetNth cs o v cs'] [hsb : SetBlk l g cs' l'] (k : WpL P n D ops rest Q fr l') : WpL P n D ops (⟨none, .store T x y, ty, pos, aft, none⟩ :: rest) Q fr l := by
  refine WpL.skp (m := l') (fun a w U hh hs => ?_) k
  obtain ⟨m, ds, T3, ht, he, _⟩ := hsb.take
  have hs2 := ht.ent w U hs
  have hg1 := hb.sat hs
  have hg2 : w.heap[g]? = some (.cells ds.toArray T3 (0, 0)) := by obtain ⟨S, hp, _⟩ := hs2; exact hp.2
  have hcs : ds = cs ∧ T3 = T2 := by
    rw [hg1] at hg2
    injection hg2 with hg2
    injection hg2 with e1 e2
    exact ⟨(congrArg Array.toList e1).symm, e2.symm⟩
  obtain ⟨rfl, rfl⟩ := hcs
  have hc : w.cell? ⟨g, o, none⟩ = some (ds[o]'hn.eq.2) := by
    rw [cell_of_row w g o _ _ _ hg1]
    simp [List.getElem?_eq_getElem hn.eq.2]
  have hfz := frozen_of_row w g o _ _ hg1
  refine ⟨w.setCell ⟨g, o, none⟩ v, ?_, ((sat_set hs2 o v).ent (by rw [← hn.eq.1]; exact he))⟩
  have hcell : v.cells = #[v] := by cases v <;> simp [Value.oneCell'] at h1 <;> rfl
  have hst := run_store P w ⟨g, o, none⟩ v .plain h1
  rw [hc] at hst
  simp only [hfz] at hst
  simp [execOp, hh.ev hx, hh.ev hy, Instr.storeAt, Instr.sureAddr, storeVar, hcell, hT.size, storeCells, ZY]
  simpa using congrArg (fun r => Result.andThen r fun _ w' => Result.ok Next.skip w') hst

theorem Z3 {w : World} {U : Nat → Prop} (h : Sat w l U) (cs : List Value) (T : Nat) : Out (QA w.heap.size cs T :: l) U w (w.alloc (.cells cs.toArray T)) := by
  have hb : Below w.heap.size w (w.alloc (.cells cs.toArray T)) := (Below.refl _ _).alloc (Nat.le_refl _) _
  have h2 : Sat (w.alloc (.cells cs.toArray T)) l (fun b => U b ∧ b < w.heap.size) := h.inside.keep hb.size fun b _ hlt => hb.block b hlt
  refine ⟨⟨fun b => b = w.heap.size, ⟨fun _ => Iff.rfl, heap_alloc_new _ _⟩, fun b hb => .inr (Nat.le_of_eq hb.symm), h2.mono fun b hb => ⟨.inl hb.1, fun e => ?_⟩⟩, .of_below hb⟩
  rw [e] at hb; exact absurd hb.2 (Nat.lt_irrefl _)
theorem Q9 {d T : Nat} {x : Operand} {v : Value} {cs : List Value} (hd : Nat.blt d n = true) (hx : ev fr x = some v) (hc : v.cells = cs.toArray)
    (k : ∀ g, WpL P n D ops rest Q ((d, .pointer (some ⟨g, 0, none⟩)) :: fr) (QA g cs T :: l)) : WpL P n D ops (⟨some d, .box T x, ty, pos, aft, none⟩ :: rest) Q fr l :=
  XR hd (fun g => .pointer (some ⟨g, 0, none⟩)) (fun g => QA g cs T :: l) (fun a w U hh hs => ⟨w.heap.size, _, by simp [execOp, hh.ev hx, Instr.box, newVar, newRow, hc], Z3 hs cs T⟩) k
theorem YE {d T : Nat} {z : List Value} (hd : Nat.blt d n = true) [hz : ZeroT P T z]
    (k : ∀ g, WpL P n D ops rest Q ((d, .pointer (some ⟨g, 0, none⟩)) :: fr) (QA g z T :: l)) : WpL P n D ops (⟨some d, .alloc T, ty, pos, aft, none⟩ :: rest) Q fr l :=
  XR hd (fun g => .pointer (some ⟨g, 0, none⟩)) (fun g => QA g z T :: l) (fun a w U hh hs => by
    refine ⟨w.heap.size, w.alloc (.cells z.toArray T), ?_, Z3 hs z T⟩
    rcases hz.run w with h | ⟨v, h, hv⟩
    · simp [execOp, Instr.alloc, h, newVar, newRow, Value.cells]
    · simp [execOp, Instr.alloc, h, newVar, newRow, hv]) k

def evs (fr : Fr) : List Operand → Option (List Value)
  | [] => some []
  | x :: xs => match ev fr x with
    | some v => match evs fr xs with
      | some vs => some (v :: vs)
      | none => none
    | none => none
theorem X6 {a : Act} (hh : Holds n D a fr) : ∀ (xs : List Operand) (vs : List Value), evs fr xs = some vs → xs.map a.eval = vs
  | [], vs, h => by simp [evs] at h; simp [h]
  | x :: xs, vs, h => by
    simp only [evs] at h
    cases hx : ev fr x with
    | none => rw [hx] at h; cases h
    | some v =>
      rw [hx] at h
      cases hr : evs fr xs with
      | none => simp [hr] at h
      | some us =>
        simp only [hr, Option.some.injEq] at h
        rw [List.map_cons, hh.ev hx, X6 hh xs us hr, h]
theorem X3 {d f : Nat} {fo : Operand} {xs : List Operand} {vs ws : List Value} {u c : List Value} {at_ : Array Nat} {pre F : List HP} {R : Value → List HP → Prop} (hd : Nat.blt d n = true) [he : Ent1 P f]
    (hf : ev fr fo = some (.func (.func f) u.toArray c.toArray)) (hx : evs fr xs = some vs) (hw : u ++ vs ++ c = ws) (ht : Take l pre F) (h : Fn P f ws.toArray pre R)
    (k : ∀ v m, R v m → WpL P n D ops rest Q ((d, v) :: fr) (m ++ F)) : WpL P n D ops (⟨some d, .call ⟨.value fo, xs.toArray, at_⟩, ty, pos, aft, none⟩ :: rest) Q fr l :=
  WpL.call hd f (fun a w hh => by
    have e1 := hh.ev hf
    have e2 := X6 hh xs vs hx
    have e3 := he.run ws.toArray w
    subst hw
    simp only [execOp, resolve, Deferred.ofValue, invoke, Sem.run_bind, e1, Sem.run_pure, Result.andThen_ok, List.map_toArray, e2]
    simpa using e3) h ht k
theorem Qh {d f : Nat} {xs : List Operand} {vs : List Value} {at_ : Array Nat} {pre F : List HP} {R : Value → List HP → Prop} (hd : Nat.blt d n = true) [he : Ent1 P f]
    (hx : evs fr xs = some vs) (ht : Take l pre F) (h : Fn P f vs.toArray pre R)
    (k : ∀ v m, R v m → WpL P n D ops rest Q ((d, v) :: fr) (m ++ F)) : WpL P n D ops (⟨some d, .call ⟨.value (.func f), xs.toArray, at_⟩, ty, pos, aft, none⟩ :: rest) Q fr l :=
  X3 (u := []) (c := []) hd rfl hx (by simp) ht h k
end
end Go.Proofs.YtggamdlpiejbiaaGreat
