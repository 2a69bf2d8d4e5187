/- From a function's contract to what a row's step asks: the value, and no block of the old memory turned. -/
import Derived.Test.YtoiecgmnnjipfaaDrawG
import Derived.ProofKit
import Derived.OpenShut
import Derived.ShutString
import Derived.ChangeOld
import Derived.Below
import Derived.Lib.SmallJoins
namespace Go.Proofs.Ytoiecgmnnjipfaa
open Go.RowKit Go.Shelf
theorem Fn.below {P : Program} {f : Nat} {args : Array Value} {x : Value} {l0 : List HP} (h : Fn P f args [] (fun v l => v = x ∧ l = l0)) (w : World) :
    Calls P f args w fun e w' => e = .returned x ∧ Below w.heap.size w w' := by
  refine (h w (fun _ => False) trivial).mono ?_
  rintro e w' ⟨v, l, rfl, ⟨rfl, _⟩, ho⟩
  exact ⟨rfl, ho.2.os, ho.2.tape, ho.2.output, ho.2.size, fun k hk => ho.2.block k hk (fun x => x)⟩
theorem wf_i64 {n : Int} (h : (Lit.int .i64 n).wf = true) : -9223372036854775808 ≤ n ∧ n < 9223372036854775808 := by
  simp [Lit.wf, IntKind.min, IntKind.max, IntKind.bits, IntKind.signed] at h
  omega
theorem wf_u8 {n : Int} (h : (Lit.int .u8 n).wf = true) : 0 ≤ n ∧ n < 256 := by
  simp [Lit.wf, IntKind.min, IntKind.max, IntKind.bits, IntKind.signed] at h
  omega
theorem wf_u64 {n : Int} (h : (Lit.int .u64 n).wf = true) : 0 ≤ n ∧ n < 18446744073709551616 := by
  simp [Lit.wf, IntKind.min, IntKind.max, IntKind.bits, IntKind.signed] at h
  omega
end Go.Proofs.Ytoiecgmnnjipfaa
