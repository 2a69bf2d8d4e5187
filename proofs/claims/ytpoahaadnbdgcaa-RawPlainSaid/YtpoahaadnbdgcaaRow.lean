/- From a function's contract to what a row's step asks: the value, and no block of the old memory turned. -/
import Derived.Test.YtpoahaadnbdgcaaDrawG
import Derived.Test.YtpoahaadnbdgcaaLoop
import Derived.ProofKit
import Derived.OpenShut
import Derived.ShutString
import Derived.ChangeOld
import Derived.Below
import Derived.Lib.SmallJoins
namespace Go.Proofs.Ytpoahaadnbdgcaa
open Go.RowKit Go.Shelf
theorem Fn.below {P : Program} {f : Nat} {args : Array Value} {x : Value} {l0 : List HP} (h : Fn P f args [] (fun v l => v = x ∧ l = l0)) (w : World) :
    Calls P f args w fun e w' => e = .returned x ∧ Below w.heap.size w w' := by
  refine (h w (fun _ => False) trivial).mono ?_
  rintro e w' ⟨v, l, rfl, ⟨rfl, _⟩, ho⟩
  exact ⟨rfl, ho.2.os, ho.2.tape, ho.2.output, ho.2.size, fun k hk => ho.2.block k hk (fun x => x)⟩
theorem wf_i64 {n : Int} (h : (Lit.int .i64 n).wf = true) : -9223372036854775808 ≤ n ∧ n < 9223372036854775808 := by
  simp [Lit.wf, IntKind.min, IntKind.max, IntKind.bits, IntKind.signed] at h
  omega
theorem wf_u8 {n : Int} (h : (Lit.int .u8 n).wf = true) : 0 ≤ n ∧ n < 256 := by
  simp [Lit.wf, IntKind.min, IntKind.max, IntKind.bits, IntKind.signed] at h
  omega
theorem wf_u64 {n : Int} (h : (Lit.int .u64 n).wf = true) : 0 ≤ n ∧ n < 18446744073709551616 := by
  simp [Lit.wf, IntKind.min, IntKind.max, IntKind.bits, IntKind.signed] at h
  omega
/-- A block of the old memory, as it was. -/
def oldB (g : Nat) (o : Obj) : HP where
  p w S := (∀ b, S b ↔ b = g) ∧ w.heap[g]? = some o
  loc := fun ⟨hs, h⟩ _ hb => ⟨hs, (hb g ((hs g).2 rfl)).trans h⟩
  lt := fun ⟨hs, h⟩ b hb => by have := (hs b).1 hb; subst this; exact (Array.getElem?_eq_some_iff.1 h).1
theorem Fn.belowO {P : Program} {f : Nat} {args : Array Value} {x : Value} {g : Nat} {o : Obj} (h : Fn P f args [oldB g o] (fun v l => v = x ∧ l = [oldB g o])) (w : World) (hg : w.heap[g]? = some o) :
    Calls P f args w fun e w' => e = .returned x ∧ Below w.heap.size w w' := by
  refine (h w (fun b => b = g) ⟨fun b => b = g, ⟨fun b => Iff.rfl, hg⟩, fun _ h => h, trivial⟩).mono ?_
  rintro e w' ⟨v, l, rfl, ⟨rfl, rfl⟩, ho⟩
  obtain ⟨S, ⟨_, hg'⟩, _⟩ := ho.1
  refine ⟨rfl, ho.2.os, ho.2.tape, ho.2.output, ho.2.size, fun k hk => ?_⟩
  by_cases hkg : k = g
  · subst hkg; exact hg'.trans hg.symm
  · exact ho.2.block k hk hkg
theorem Fn.belowE {P : Program} {f : Nat} {args : Array Value} {x : Value} (h : Fn P f args [emp] (fun v l => v = x ∧ l = [emp])) (w : World) :
    Calls P f args w fun e w' => e = .returned x ∧ Below w.heap.size w w' := by
  refine (h w (fun _ => False) ⟨fun _ => False, fun _ h => h, fun _ h => h, trivial⟩).mono ?_
  rintro e w' ⟨v, l, rfl, ⟨rfl, _⟩, ho⟩
  exact ⟨rfl, ho.2.os, ho.2.tape, ho.2.output, ho.2.size, fun k hk => ho.2.block k hk (fun x => x)⟩
theorem cell_same {w w' : World} {a : Addr} (h : w'.heap[a.block]? = w.heap[a.block]?) : w'.cell? a = w.cell? a := by
  unfold World.cell?
  rw [h]
theorem add_block (a : Addr) (i : Nat) : (a.add i).block = a.block := by unfold Addr.add; split <;> rfl
/-- A row that came in: what is read of it, and that it stays. -/
theorem slice_in (P : Program) (W : World) (k : IntKind) (a : Option Addr) (len _cap : Nat) (zs : List Int) (hlen : zs.length = len)
    (h : (a = none ∧ zs = []) ∨ ∃ x, a = some x ∧ (∀ i, i < zs.length → W.cell? (x.add i) = some (.int k (zs.getD i 0)))) :
    ∃ A0 : HP, RdsL [A0] a (zs.map (Value.int k)) ∧ ∀ (f : Nat) (args : Array Value) (x : Value), Fn P f args [A0] (fun v l => v = x ∧ l = [A0]) → Calls P f args W fun e w' => e = .returned x ∧ Below W.heap.size W w' := by
  rcases h with ⟨rfl, rfl⟩ | ⟨x, rfl, hc⟩
  · exact ⟨emp, RdsL.nil, fun f args x h => h.belowE W⟩
  · cases ho : W.heap[x.block]? with
    | none =>
      have hz : zs = [] := by
        cases zs with
        | nil => rfl
        | cons z zs =>
          have := hc 0 (by simp)
          unfold World.cell? at this
          rw [add_block, ho] at this
          cases this
      subst hz
      exact ⟨emp, RdsL.nil, fun f args x h => h.belowE W⟩
    | some o =>
      refine ⟨oldB x.block o, ?_, fun f args y h => h.belowO W ho⟩
      rintro w U ⟨S, ⟨_, hg⟩, _⟩
      refine ⟨fun _ => rfl, fun ad ha j u hu => ?_⟩
      cases ha
      have hj : j < zs.length := by
        have := (List.getElem?_eq_some_iff.1 hu).1
        simpa using this
      have h2 := hc j hj
      rw [cell_same (w := W) (by rw [add_block, hg, ho]), h2]
      rw [List.getElem?_map, List.getElem?_eq_getElem hj] at hu
      rw [← hu]
      simp [List.getD, List.getElem?_eq_getElem hj]
end Go.Proofs.Ytpoahaadnbdgcaa
