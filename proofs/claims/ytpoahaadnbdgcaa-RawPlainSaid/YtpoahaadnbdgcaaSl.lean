/- Separated assertions over the machine's memory: lists of parts that hold on blocks apart, what a call may change, and the rule of the frame. -/
import Derived.WalkKit
import Derived.Orders
import Derived.Shelf.Abstract
namespace Go.Proofs.Ytpoahaadnbdgcaa
open Go.RowKit

theorem napp {α : Type _} : (∀ l : List α, [] ++ l = l) ∧ ∀ (a : α) (l m : List α), a :: l ++ m = a :: (l ++ m) := ⟨fun _ => rfl, fun _ _ _ => rfl⟩
/-! ### Parts of memory -/
structure HP where
  p : World → (Nat → Prop) → Prop
  loc : ∀ {w w' : World} {S : Nat → Prop}, p w S → w.heap.size ≤ w'.heap.size → (∀ b, S b → w'.heap[b]? = w.heap[b]?) → p w' S
  lt : ∀ {w : World} {S : Nat → Prop}, p w S → ∀ b, S b → b < w.heap.size

def Sat (w : World) : List HP → (Nat → Prop) → Prop
  | [], _ => True
  | A :: l, U => ∃ S : Nat → Prop, A.p w S ∧ (∀ b, S b → U b) ∧ Sat w l (fun b => U b ∧ ¬ S b)

theorem Sat.mono {w : World} : ∀ {l : List HP} {U U' : Nat → Prop}, Sat w l U → (∀ b, U b → U' b) → Sat w l U'
  | [], _, _, _, _ => trivial
  | _ :: _, _, _, ⟨S, h, hs, hl⟩, hu => ⟨S, h, fun b hb => hu b (hs b hb), hl.mono fun b hb => ⟨hu b hb.1, hb.2⟩⟩

theorem Sat.keep {w w' : World} (hz : w.heap.size ≤ w'.heap.size) : ∀ {l : List HP} {U : Nat → Prop}, Sat w l U → (∀ b, U b → b < w.heap.size → w'.heap[b]? = w.heap[b]?) → Sat w' l U
  | [], _, _, _ => trivial
  | A :: _, _, ⟨S, h, hs, hl⟩, hu => ⟨S, A.loc h hz (fun b hb => hu b (hs b hb) (A.lt h b hb)), hs, Sat.keep hz hl fun b hb hlt => hu b hb.1 hlt⟩

theorem Sat.inside {w : World} : ∀ {l : List HP} {U : Nat → Prop}, Sat w l U → Sat w l (fun b => U b ∧ b < w.heap.size)
  | [], _, _ => trivial
  | A :: _, _, ⟨S, h, hs, hl⟩ => ⟨S, h, fun b hb => ⟨hs b hb, A.lt h b hb⟩, (Sat.inside hl).mono fun _ hb => ⟨⟨hb.1.1, hb.2⟩, hb.1.2⟩⟩

theorem Sat.swap {w : World} {A B : HP} {l : List HP} {U : Nat → Prop} (h : Sat w (A :: B :: l) U) : Sat w (B :: A :: l) U := by
  obtain ⟨S, hA, hS, T, hB, hT, hl⟩ := h
  refine ⟨T, hB, fun b hb => (hT b hb).1, S, hA, fun b hb => ⟨hS b hb, fun ht => (hT b ht).2 hb⟩, Sat.mono hl fun b (hb : (U b ∧ ¬ S b) ∧ ¬ T b) => ⟨⟨hb.1.1, hb.2⟩, hb.1.2⟩⟩

theorem Sat.tail {w : World} {A : HP} {l : List HP} {U : Nat → Prop} (h : Sat w (A :: l) U) : Sat w l U := by
  obtain ⟨S, _, _, hl⟩ := h
  exact Sat.mono hl fun b (hb : U b ∧ ¬ S b) => hb.1

/-- Two lists: of the first one the blocks. -/
theorem Sat.split {w : World} : ∀ {l m : List HP} {U : Nat → Prop}, Sat w (l ++ m) U → ∃ V : Nat → Prop, (∀ b, V b → U b ∧ b < w.heap.size) ∧ Sat w l V ∧ Sat w m (fun b => U b ∧ ¬ V b)
  | [], m, U, h => ⟨fun _ => False, fun _ h => h.elim, trivial, Sat.mono (by simpa using h) fun b hb => ⟨hb, fun x => x⟩⟩
  | A :: l, m, U, ⟨S, hA, hS, hl⟩ => by
    obtain ⟨V, hV, h1, h2⟩ := Sat.split (l := l) hl
    refine ⟨fun b => S b ∨ V b, fun b hb => ?_, ⟨S, hA, fun b hb => .inl hb, h1.mono fun b hb => ⟨.inr hb, (hV b hb).1.2⟩⟩, h2.mono fun b hb => ⟨hb.1.1, fun x => x.elim hb.1.2 hb.2⟩⟩
    rcases hb with hb | hb
    · exact ⟨hS b hb, A.lt hA b hb⟩
    · exact ⟨(hV b hb).1.1, (hV b hb).2⟩

theorem Sat.join {w : World} : ∀ {l m : List HP} {U V : Nat → Prop}, Sat w l V → (∀ b, V b → U b) → Sat w m (fun b => U b ∧ ¬ V b) → Sat w (l ++ m) U
  | [], _, U, V, _, _, h => Sat.mono (U := fun b => U b ∧ ¬ V b) (by simpa using h) fun _ hb => hb.1
  | A :: l, m, U, V, ⟨S, hA, hS, hl⟩, hV, h => by
    refine ⟨S, hA, fun b hb => hV b (hS b hb), ?_⟩
    exact Sat.join (V := fun b => V b ∧ ¬ S b) hl (fun b hb => ⟨hV b hb.1, hb.2⟩) (h.mono fun b hb => ⟨⟨hb.1, fun x => hb.2 (hS b x)⟩, fun x => hb.2 x.1⟩)

/-- What follows from what, block by block. -/
def Ent (l m : List HP) : Prop := ∀ (w : World) (U : Nat → Prop), Sat w l U → Sat w m U
theorem Ent.refl (l : List HP) : Ent l l := fun _ _ h => h
theorem Ent.trans {l m k : List HP} (h : Ent l m) (g : Ent m k) : Ent l k := fun w U x => g w U (h w U x)
theorem Ent.nil (l : List HP) : Ent l [] := fun _ _ _ => trivial
theorem Ent.cons {A : HP} {l m : List HP} (h : Ent l m) : Ent (A :: l) (A :: m) := fun w _ ⟨S, a, b, c⟩ => ⟨S, a, b, h w _ c⟩
theorem Ent.drop {A : HP} {l m : List HP} (h : Ent l m) : Ent (A :: l) m := fun w U x => h w U x.tail
theorem Ent.swap {A B : HP} {l : List HP} : Ent (A :: B :: l) (B :: A :: l) := fun _ _ h => h.swap

/-- One part taken out of a list. -/
inductive Take1 : List HP → HP → List HP → Prop
  | here {A : HP} {l : List HP} : Take1 (A :: l) A l
  | there {A B : HP} {l m : List HP} : Take1 l A m → Take1 (B :: l) A (B :: m)
theorem Take1.ent {l m : List HP} {A : HP} (h : Take1 l A m) : Ent l (A :: m) := by
  induction h with
  | here => exact .refl _
  | there _ ih => exact (Ent.cons ih).trans .swap
inductive Take : List HP → List HP → List HP → Prop
  | nil {l : List HP} : Take l [] l
  | cons {l m k : List HP} {A : HP} {pre : List HP} : Take1 l A m → Take m pre k → Take l (A :: pre) k
theorem Take.ent {l pre k : List HP} (h : Take l pre k) : Ent l (pre ++ k) := by
  induction h with
  | nil => exact .refl _
  | cons h1 _ ih => exact h1.ent.trans (Ent.cons ih)
theorem Take.ent' {l pre k : List HP} (h : Take l pre k) : Ent l pre := by
  induction h with
  | nil => exact .nil _
  | cons h1 _ ih => exact h1.ent.trans (Ent.cons ih)

/-! ### What a run may change -/
structure Chg (U : Nat → Prop) (w w' : World) : Prop where
  os : w'.os = w.os
  tape : w'.tape = w.tape
  output : w'.output = w.output
  size : w.heap.size ≤ w'.heap.size
  block : ∀ b, b < w.heap.size → ¬ U b → w'.heap[b]? = w.heap[b]?

theorem Chg.refl (U : Nat → Prop) (w : World) : Chg U w w := ⟨rfl, rfl, rfl, Nat.le_refl _, fun _ _ _ => rfl⟩
theorem Chg.of_below {U : Nat → Prop} {w w' : World} (h : Below w.heap.size w w') : Chg U w w' := ⟨h.os, h.tape, h.output, h.size, fun b hb _ => h.block b hb⟩
theorem Chg.below {w w' : World} (h : Chg (fun _ => False) w w') : Below w.heap.size w w' := ⟨h.os, h.tape, h.output, h.size, fun b hb => h.block b hb (fun x => x)⟩
theorem Chg.mono {U V : Nat → Prop} {w w' : World} (h : Chg U w w') (hu : ∀ b, b < w.heap.size → U b → V b) : Chg V w w' := ⟨h.os, h.tape, h.output, h.size, fun b hb hn => h.block b hb fun x => hn (hu b hb x)⟩
theorem Chg.trans {U V : Nat → Prop} {w w1 w2 : World} (h : Chg U w w1) (k : Chg V w1 w2) (hv : ∀ b, b < w.heap.size → V b → U b) : Chg U w w2 :=
  ⟨k.os.trans h.os, k.tape.trans h.tape, k.output.trans h.output, Nat.le_trans h.size k.size, fun b hb hn => (k.block b (Nat.lt_of_lt_of_le hb h.size) fun x => hn (hv b hb x)).trans (h.block b hb hn)⟩

/-- The blocks that may be ours behind a step. -/
def Grow (U : Nat → Prop) (w : World) : Nat → Prop := fun b => U b ∨ w.heap.size ≤ b

/-- A step's world: the parts, and the old blocks. -/
def Out (l : List HP) (U : Nat → Prop) (w w' : World) : Prop := Sat w' l (Grow U w) ∧ Chg U w w'

theorem Out.refl {l : List HP} {U : Nat → Prop} {w : World} (h : Sat w l U) : Out l U w w := ⟨h.mono fun _ hb => .inl hb, .refl _ _⟩
theorem Out.ent {l m : List HP} {U : Nat → Prop} {w w' : World} (h : Out l U w w') (he : Ent l m) : Out m U w w' := ⟨he _ _ h.1, h.2⟩
theorem Out.then {l m : List HP} {U : Nat → Prop} {w w1 w2 : World} (h : Out l U w w1) (k : Out m (Grow U w) w1 w2) : Out m U w w2 := by
  refine ⟨k.1.mono fun b hb => ?_, h.2.trans k.2 fun b hb hg => ?_⟩
  · rcases hb with hb | hb
    · exact hb
    · exact .inr (Nat.le_trans h.2.size hb)
  · rcases hg with hg | hg
    · exact hg
    · omega

theorem Out.chg {l : List HP} {U : Nat → Prop} {w w' : World} (h : Sat w l U) (hb : Below w.heap.size w w') : Out l U w w' :=
  ⟨(Sat.keep hb.size h fun b _ hlt => hb.block b hlt).mono fun _ hb => .inl hb, .of_below hb⟩

/-- The rule of the frame: what was done with the first parts leaves the others. -/
theorem Out.frame {pre F : List HP} {U : Nat → Prop} {w : World} (h : Sat w (pre ++ F) U) :
    ∃ V : Nat → Prop, Sat w pre V ∧ ∀ l w', Out l V w w' → Out (l ++ F) U w w' := by
  obtain ⟨V, hV, h1, h2⟩ := h.split
  refine ⟨V, h1, fun l w' ⟨hs, hc⟩ => ⟨?_, hc.mono fun b _ hb => (hV b hb).1⟩⟩
  have h3 : Sat w' F (fun b => (U b ∧ ¬ V b) ∧ b < w.heap.size) := h2.inside.keep hc.size fun b hb hlt => hc.block b hlt hb.1.2
  refine Sat.join (V := Grow V w) hs (fun b hb => ?_) (h3.mono fun b hb => ?_)
  · rcases hb with hb | hb
    · exact .inl (hV b hb).1
    · exact .inr hb
  · refine ⟨.inl hb.1.1, fun x => ?_⟩
    rcases x with x | x
    · exact hb.1.2 x
    · exact absurd hb.2 (Nat.not_lt.2 x)

/-! ### Contracts -/
/-- Called so, with these parts at hand, it returns; R says of the value, and of the parts that are there then. -/
def Fn (P : Program) (f : FuncId) (args : Array Value) (pre : List HP) (R : Value → List HP → Prop) : Prop :=
  ∀ (w : World) (U : Nat → Prop), Sat w pre U → Calls P f args w fun e w' => ∃ v l, e = .returned v ∧ R v l ∧ Out l U w w'

theorem Fn.mono {P : Program} {f : FuncId} {args : Array Value} {pre : List HP} {R R' : Value → List HP → Prop} (h : Fn P f args pre R) (hr : ∀ v l, R v l → ∃ m, R' v m ∧ Ent l m) : Fn P f args pre R' :=
  fun w U hs => (h w U hs).mono fun _ _ ⟨v, l, e, r, o⟩ => let ⟨m, r', he⟩ := hr v l r; ⟨v, m, e, r', o.ent he⟩
theorem Fn.pre {P : Program} {f : FuncId} {args : Array Value} {pre pre' : List HP} {R : Value → List HP → Prop} (h : Fn P f args pre R) (he : Ent pre' pre) : Fn P f args pre' R :=
  fun w U hs => h w U (he w U hs)
/-- Out of a contract that tells of the world alone. -/
theorem Fn.of_calls {P : Program} {f : FuncId} {args : Array Value} {R : Value → Prop} (h : ∀ w, Calls P f args w fun e w' => ∃ v, e = .returned v ∧ R v ∧ Below w.heap.size w w') : Fn P f args [] (fun v l => R v ∧ l = []) :=
  fun w _ _ => (h w).mono fun _ _ ⟨v, e, r, b⟩ => ⟨v, [], e, ⟨r, rfl⟩, trivial, .of_below b⟩
theorem Fn.of_same {P : Program} {f : FuncId} {args : Array Value} {v : Value} (h : ∀ w, Calls P f args w fun e w' => e = .returned v ∧ w' = w) : Fn P f args [] (fun u l => u = v ∧ l = []) :=
  fun w _ _ => (h w).mono fun _ _ ⟨e, r⟩ => ⟨v, [], e, ⟨rfl, rfl⟩, trivial, by rw [r]; exact .refl _ _⟩

end Go.Proofs.Ytpoahaadnbdgcaa
