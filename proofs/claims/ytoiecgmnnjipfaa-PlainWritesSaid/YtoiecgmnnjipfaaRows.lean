/-
  No cell of these rows narrows 'for every input' (looked for: loops, veiled, ifaces, maps, wideKeys, modest, calm, conditions, laid).
  DERIVED. THE GIVEN ROWS OF THIS SEAT. 7 by the template 'for every input the law returns true; each argument reads behind the call as it read before'; 0 by the template 'total and deterministic' (their statements: YtoiecgmnnjipfaaTotals.lean).
  GIVEN WITH THE SEED: the statements are not yours to turn. If you find one false, say at which input.
  Laid BY PROGRAM, IN A SANDBOX (cutbox-rows.mjs): the forced cells as the released guide's own fill.sh prints them over the translation d1cddc687a061495… (all of the seat's roots in one cut). By AI agents, Wed Nov 11 2026. No macro, syntax, notation, axiom, sorry.
-/
import Derived.Test.YtoiecgmnnjipfaaChecked
import GoSem.Claim
import GoSem.ClaimJoined
import GoSem.ClaimMapViews
import Derived.JoinedTies
import Derived.KernelRfl
namespace Go.Proofs.Ytoiecgmnnjipfaa
/- THE CELL 'sum', in the pinned program and in every row, IS THE sha256 OF THE DUMP (.gsa) THAT YtoiecgmnnjipfaaProg.lean LOADS. Nothing in Lean hashes anything: it is a label: what it is worth is what the hold of that sum in a sandbox is worth. -/
noncomputable def Try.pinned : Pinned := { name := "ytoiecgmnnjipfaa", sum := "d1cddc687a0614955723b8f393c26d0202d16c16e3c9b0978868be79b2fab3b6", checked := Try.checked }
namespace Rows
def none {H : Type} : Left H := { results := [], args := [] }

/-- 'chequerlaw08.PlainReads': WHATEVER THE INPUT: true; the input reads as it did. -/
def plainReadsSpec : ChangeSpec := { name := "plainReads", fn := fun _ => fun
  | [d1, d2] => { results := [.lit (.bool true)], args := [d1, d2] }
  | _ => none }
def plainReadsRow : OpenClaim := { program := "ytoiecgmnnjipfaa", sum := "d1cddc687a0614955723b8f393c26d0202d16c16e3c9b0978868be79b2fab3b6", func := "chequer/chequerlaw08.PlainReads", spec := "plainReads", inPlace := ["internal/bytealg.IndexByteString"], unfollowed := true, recurses := true, apart := false }
def PlainReadsSaid : Prop := plainReadsRow.holds Try.pinned (OpenSpec.ofChange plainReadsSpec)

/-- ITS FALSE NEIGHBOUR: 'it returns false'. Refute it at one input. -/
def plainReadsWrong : ChangeSpec := { name := "plainReads", fn := fun _ => fun
  | [d1, d2] => { results := [.lit (.bool false)], args := [d1, d2] }
  | _ => none }
def PlainReadsWrongFalsely : Prop := plainReadsRow.holds Try.pinned (OpenSpec.ofChange plainReadsWrong)

/-- 'chequerlaw08.PlainNew': WHATEVER THE INPUT: true; the input reads as it did. -/
def plainNewSpec : ChangeSpec := { name := "plainNew", fn := fun _ => fun
  | [d] => { results := [.lit (.bool true)], args := [d] }
  | _ => none }
def plainNewRow : OpenClaim := { program := "ytoiecgmnnjipfaa", sum := "d1cddc687a0614955723b8f393c26d0202d16c16e3c9b0978868be79b2fab3b6", func := "chequer/chequerlaw08.PlainNew", spec := "plainNew", inPlace := ["internal/bytealg.IndexByteString"], unfollowed := true, recurses := true, apart := false }
def PlainNewSaid : Prop := plainNewRow.holds Try.pinned (OpenSpec.ofChange plainNewSpec)

/-- ITS FALSE NEIGHBOUR: 'it returns false'. Refute it at one input. -/
def plainNewWrong : ChangeSpec := { name := "plainNew", fn := fun _ => fun
  | [d] => { results := [.lit (.bool false)], args := [d] }
  | _ => none }
def PlainNewWrongFalsely : Prop := plainNewRow.holds Try.pinned (OpenSpec.ofChange plainNewWrong)

/-- 'chequerlaw08.PlainBlanks': WHATEVER THE INPUT: true; the input reads as it did. -/
def plainBlanksSpec : ChangeSpec := { name := "plainBlanks", fn := fun _ => fun
  | [d1, d2, d3] => { results := [.lit (.bool true)], args := [d1, d2, d3] }
  | _ => none }
def plainBlanksRow : OpenClaim := { program := "ytoiecgmnnjipfaa", sum := "d1cddc687a0614955723b8f393c26d0202d16c16e3c9b0978868be79b2fab3b6", func := "chequer/chequerlaw08.PlainBlanks", spec := "plainBlanks", inPlace := ["internal/bytealg.IndexByteString"], unfollowed := true, recurses := true, apart := false }
def PlainBlanksSaid : Prop := plainBlanksRow.holds Try.pinned (OpenSpec.ofChange plainBlanksSpec)

/-- ITS FALSE NEIGHBOUR: 'it returns false'. Refute it at one input. -/
def plainBlanksWrong : ChangeSpec := { name := "plainBlanks", fn := fun _ => fun
  | [d1, d2, d3] => { results := [.lit (.bool false)], args := [d1, d2, d3] }
  | _ => none }
def PlainBlanksWrongFalsely : Prop := plainBlanksRow.holds Try.pinned (OpenSpec.ofChange plainBlanksWrong)

/-- 'chequerlaw08.PlainSteps': WHATEVER THE INPUT: true; the input reads as it did. -/
def plainStepsSpec : ChangeSpec := { name := "plainSteps", fn := fun _ => fun
  | [d1, d2] => { results := [.lit (.bool true)], args := [d1, d2] }
  | _ => none }
def plainStepsRow : OpenClaim := { program := "ytoiecgmnnjipfaa", sum := "d1cddc687a0614955723b8f393c26d0202d16c16e3c9b0978868be79b2fab3b6", func := "chequer/chequerlaw08.PlainSteps", spec := "plainSteps", inPlace := ["internal/bytealg.IndexByteString"], unfollowed := true, recurses := true, apart := false }
def PlainStepsSaid : Prop := plainStepsRow.holds Try.pinned (OpenSpec.ofChange plainStepsSpec)

/-- ITS FALSE NEIGHBOUR: 'it returns false'. Refute it at one input. -/
def plainStepsWrong : ChangeSpec := { name := "plainSteps", fn := fun _ => fun
  | [d1, d2] => { results := [.lit (.bool false)], args := [d1, d2] }
  | _ => none }
def PlainStepsWrongFalsely : Prop := plainStepsRow.holds Try.pinned (OpenSpec.ofChange plainStepsWrong)

/-- 'chequerlaw08.PlainCuts': WHATEVER THE INPUT: true; the input reads as it did. -/
def plainCutsSpec : ChangeSpec := { name := "plainCuts", fn := fun _ => fun
  | [d1, d2, d3] => { results := [.lit (.bool true)], args := [d1, d2, d3] }
  | _ => none }
def plainCutsRow : OpenClaim := { program := "ytoiecgmnnjipfaa", sum := "d1cddc687a0614955723b8f393c26d0202d16c16e3c9b0978868be79b2fab3b6", func := "chequer/chequerlaw08.PlainCuts", spec := "plainCuts", inPlace := ["internal/bytealg.IndexByteString"], unfollowed := true, recurses := true, apart := false }
def PlainCutsSaid : Prop := plainCutsRow.holds Try.pinned (OpenSpec.ofChange plainCutsSpec)

/-- ITS FALSE NEIGHBOUR: 'it returns false'. Refute it at one input. -/
def plainCutsWrong : ChangeSpec := { name := "plainCuts", fn := fun _ => fun
  | [d1, d2, d3] => { results := [.lit (.bool false)], args := [d1, d2, d3] }
  | _ => none }
def PlainCutsWrongFalsely : Prop := plainCutsRow.holds Try.pinned (OpenSpec.ofChange plainCutsWrong)

/-- 'chequerlaw08.PlainDigits': WHATEVER THE INPUT: true; the input reads as it did. -/
def plainDigitsSpec : ChangeSpec := { name := "plainDigits", fn := fun _ => fun
  | [d] => { results := [.lit (.bool true)], args := [d] }
  | _ => none }
def plainDigitsRow : OpenClaim := { program := "ytoiecgmnnjipfaa", sum := "d1cddc687a0614955723b8f393c26d0202d16c16e3c9b0978868be79b2fab3b6", func := "chequer/chequerlaw08.PlainDigits", spec := "plainDigits", inPlace := ["internal/bytealg.IndexByteString"], unfollowed := true, recurses := true, apart := false }
def PlainDigitsSaid : Prop := plainDigitsRow.holds Try.pinned (OpenSpec.ofChange plainDigitsSpec)

/-- ITS FALSE NEIGHBOUR: 'it returns false'. Refute it at one input. -/
def plainDigitsWrong : ChangeSpec := { name := "plainDigits", fn := fun _ => fun
  | [d] => { results := [.lit (.bool false)], args := [d] }
  | _ => none }
def PlainDigitsWrongFalsely : Prop := plainDigitsRow.holds Try.pinned (OpenSpec.ofChange plainDigitsWrong)

/-- 'chequerlaw08.PlainWrites': WHATEVER THE INPUT: true; the input reads as it did. -/
def plainWritesSpec : ChangeSpec := { name := "plainWrites", fn := fun _ => fun
  | [d1, d2, d3, d4] => { results := [.lit (.bool true)], args := [d1, d2, d3, d4] }
  | _ => none }
def plainWritesRow : OpenClaim := { program := "ytoiecgmnnjipfaa", sum := "d1cddc687a0614955723b8f393c26d0202d16c16e3c9b0978868be79b2fab3b6", func := "chequer/chequerlaw08.PlainWrites", spec := "plainWrites", inPlace := ["internal/bytealg.IndexByteString", "internal/abi.NoEscape", "internal/bytealg.MakeNoZero"], unfollowed := true, recurses := true, apart := false }
def PlainWritesSaid : Prop := plainWritesRow.holds Try.pinned (OpenSpec.ofChange plainWritesSpec)

/-- ITS FALSE NEIGHBOUR: 'it returns false'. Refute it at one input. -/
def plainWritesWrong : ChangeSpec := { name := "plainWrites", fn := fun _ => fun
  | [d1, d2, d3, d4] => { results := [.lit (.bool false)], args := [d1, d2, d3, d4] }
  | _ => none }
def PlainWritesWrongFalsely : Prop := plainWritesRow.holds Try.pinned (OpenSpec.ofChange plainWritesWrong)

/- THE SECOND FORM. 'bulk': how many values and letters a reading holds, each counted each time it is reached (what is shared counts as often as it is met; a slice's spare places count too). A statement '..UptoSaid' is the law's where the arguments, and the package variables that the reading takes, are together of bulk at most 1048576: NARROWER than '..Said'. Prove '..Said' where nothing that the law and all that it calls make is longer than what came in: it says more and counts as full. Else prove '..UptoSaid'. A law counts once. -/
mutual
def uptoBulk {H : Type} : DataW H → Nat
  | .lit (.string bytes) => bytes.length + 1
  | .lit _ => 1
  | .nil => 1
  | .ptr d => uptoBulk d + 1
  | .slice elems spare => uptoBulkAll elems + uptoBulkAll spare + 1
  | .agg parts => uptoBulkAll parts + 1
  | .iface _ d => uptoBulk d + 1
  | .map entries => uptoBulkEntries entries + 1
  | .held _ => 1
def uptoBulkAll {H : Type} : List (DataW H) → Nat
  | [] => 0
  | d :: r => uptoBulk d + uptoBulkAll r
def uptoBulkEntries {H : Type} : List (Lit × DataW H) → Nat
  | [] => 0
  | x :: r => uptoBulkEntry x + uptoBulkEntries r
def uptoBulkEntry {H : Type} : Lit × DataW H → Nat
  | (.string bytes, d) => bytes.length + uptoBulk d + 1
  | (_, d) => uptoBulk d + 1
 end
def uptoSmall : (H : Type) → List (DataW H) → Bool := fun _ ds => decide (uptoBulkAll ds ≤ 1048576)
def OpenSpec.upto (s : _root_.Go.ChangeSpec) : _root_.Go.OpenSpec := { _root_.Go.OpenSpec.ofChange s with cond := some uptoSmall }

/-- 'chequerlaw08.PlainReads', WHERE WHAT IT READS IS OF BULK AT MOST 1048576: true; the input reads as it did. -/
def plainReadsUptoRow : OpenClaim := { program := "ytoiecgmnnjipfaa", sum := "d1cddc687a0614955723b8f393c26d0202d16c16e3c9b0978868be79b2fab3b6", func := "chequer/chequerlaw08.PlainReads", spec := "plainReads", inPlace := ["internal/bytealg.IndexByteString"], unfollowed := true, recurses := true, apart := false, narrowed := true }
def PlainReadsUptoSaid : Prop := plainReadsUptoRow.holds Try.pinned (OpenSpec.upto plainReadsSpec)

/-- 'chequerlaw08.PlainNew', WHERE WHAT IT READS IS OF BULK AT MOST 1048576: true; the input reads as it did. -/
def plainNewUptoRow : OpenClaim := { program := "ytoiecgmnnjipfaa", sum := "d1cddc687a0614955723b8f393c26d0202d16c16e3c9b0978868be79b2fab3b6", func := "chequer/chequerlaw08.PlainNew", spec := "plainNew", inPlace := ["internal/bytealg.IndexByteString"], unfollowed := true, recurses := true, apart := false, narrowed := true }
def PlainNewUptoSaid : Prop := plainNewUptoRow.holds Try.pinned (OpenSpec.upto plainNewSpec)

/-- 'chequerlaw08.PlainBlanks', WHERE WHAT IT READS IS OF BULK AT MOST 1048576: true; the input reads as it did. -/
def plainBlanksUptoRow : OpenClaim := { program := "ytoiecgmnnjipfaa", sum := "d1cddc687a0614955723b8f393c26d0202d16c16e3c9b0978868be79b2fab3b6", func := "chequer/chequerlaw08.PlainBlanks", spec := "plainBlanks", inPlace := ["internal/bytealg.IndexByteString"], unfollowed := true, recurses := true, apart := false, narrowed := true }
def PlainBlanksUptoSaid : Prop := plainBlanksUptoRow.holds Try.pinned (OpenSpec.upto plainBlanksSpec)

/-- 'chequerlaw08.PlainSteps', WHERE WHAT IT READS IS OF BULK AT MOST 1048576: true; the input reads as it did. -/
def plainStepsUptoRow : OpenClaim := { program := "ytoiecgmnnjipfaa", sum := "d1cddc687a0614955723b8f393c26d0202d16c16e3c9b0978868be79b2fab3b6", func := "chequer/chequerlaw08.PlainSteps", spec := "plainSteps", inPlace := ["internal/bytealg.IndexByteString"], unfollowed := true, recurses := true, apart := false, narrowed := true }
def PlainStepsUptoSaid : Prop := plainStepsUptoRow.holds Try.pinned (OpenSpec.upto plainStepsSpec)

/-- 'chequerlaw08.PlainCuts', WHERE WHAT IT READS IS OF BULK AT MOST 1048576: true; the input reads as it did. -/
def plainCutsUptoRow : OpenClaim := { program := "ytoiecgmnnjipfaa", sum := "d1cddc687a0614955723b8f393c26d0202d16c16e3c9b0978868be79b2fab3b6", func := "chequer/chequerlaw08.PlainCuts", spec := "plainCuts", inPlace := ["internal/bytealg.IndexByteString"], unfollowed := true, recurses := true, apart := false, narrowed := true }
def PlainCutsUptoSaid : Prop := plainCutsUptoRow.holds Try.pinned (OpenSpec.upto plainCutsSpec)

/-- 'chequerlaw08.PlainDigits', WHERE WHAT IT READS IS OF BULK AT MOST 1048576: true; the input reads as it did. -/
def plainDigitsUptoRow : OpenClaim := { program := "ytoiecgmnnjipfaa", sum := "d1cddc687a0614955723b8f393c26d0202d16c16e3c9b0978868be79b2fab3b6", func := "chequer/chequerlaw08.PlainDigits", spec := "plainDigits", inPlace := ["internal/bytealg.IndexByteString"], unfollowed := true, recurses := true, apart := false, narrowed := true }
def PlainDigitsUptoSaid : Prop := plainDigitsUptoRow.holds Try.pinned (OpenSpec.upto plainDigitsSpec)

/-- 'chequerlaw08.PlainWrites', WHERE WHAT IT READS IS OF BULK AT MOST 1048576: true; the input reads as it did. -/
def plainWritesUptoRow : OpenClaim := { program := "ytoiecgmnnjipfaa", sum := "d1cddc687a0614955723b8f393c26d0202d16c16e3c9b0978868be79b2fab3b6", func := "chequer/chequerlaw08.PlainWrites", spec := "plainWrites", inPlace := ["internal/bytealg.IndexByteString", "internal/abi.NoEscape", "internal/bytealg.MakeNoZero"], unfollowed := true, recurses := true, apart := false, narrowed := true }
def PlainWritesUptoSaid : Prop := plainWritesUptoRow.holds Try.pinned (OpenSpec.upto plainWritesSpec)

end Rows
end Go.Proofs.Ytoiecgmnnjipfaa
