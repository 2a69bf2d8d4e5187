/-
  No cell of these rows narrows 'for every input' (looked for: loops, veiled, ifaces, maps, wideKeys, modest, calm, conditions, laid).
  DERIVED. THE GIVEN ROWS OF THIS SEAT. 11 by the template 'for every input the law returns true; each argument reads behind the call as it read before'; 0 by the template 'total and deterministic' (their statements: YtggamdlpiejbiaaGreatTotals.lean).
  GIVEN WITH THE SEED: the statements are not yours to turn. If you find one false, say at which input.
  Laid BY PROGRAM, IN A SANDBOX (cutbox-rows.mjs): the forced cells as the released guide's own fill.sh prints them over the translation 8a8e303ddf7e0fd8… (all of the seat's roots in one cut). By AI agents, Wed Nov 11 2026. No macro, syntax, notation, axiom, sorry.
-/
import Derived.Test.YtggamdlpiejbiaaGreatChecked
import GoSem.Claim
import GoSem.ClaimJoined
import GoSem.ClaimMapViews
import Derived.JoinedTies
import Derived.KernelRfl
namespace Go.Proofs.YtggamdlpiejbiaaGreat
/- THE CELL 'sum', in the pinned program and in every row, IS THE sha256 OF THE DUMP (.gsa) THAT YtggamdlpiejbiaaGreatProg.lean LOADS. Nothing in Lean hashes anything: it is a label: what it is worth is what the hold of that sum in a sandbox is worth. -/
noncomputable def Tryz.pinned : Pinned := { name := "ytggamdlpiejbiaagreat", sum := "8a8e303ddf7e0fd82d0d1c3aa128ab3f31efba4f02c92e42ff6efc0cb1068740", checked := Tryz.checked }
namespace Rows
def none {H : Type} : Left H := { results := [], args := [] }

/-- 'chequerlaw11.PnmOpen': WHATEVER THE INPUT: true; the input reads as it did. -/
def pnmOpenSpec : ChangeSpec := { name := "pnmOpen", fn := fun _ => fun
  | [d1, d2, d3, d4, d5, d6, d7] => { results := [.lit (.bool true)], args := [d1, d2, d3, d4, d5, d6, d7] }
  | _ => none }
def pnmOpenRow : OpenClaim := { program := "ytggamdlpiejbiaagreat", sum := "8a8e303ddf7e0fd82d0d1c3aa128ab3f31efba4f02c92e42ff6efc0cb1068740", func := "chequer/chequerlaw11.PnmOpen", spec := "pnmOpen", inPlace := ["internal/bytealg.IndexByteString"], unfollowed := true, recurses := true, apart := false }
def PnmOpenSaid : Prop := pnmOpenRow.holds Tryz.pinned (OpenSpec.ofChange pnmOpenSpec)

/-- ITS FALSE NEIGHBOUR: 'it returns false'. Refute it at one input. -/
def pnmOpenWrong : ChangeSpec := { name := "pnmOpen", fn := fun _ => fun
  | [d1, d2, d3, d4, d5, d6, d7] => { results := [.lit (.bool false)], args := [d1, d2, d3, d4, d5, d6, d7] }
  | _ => none }
def PnmOpenWrongFalsely : Prop := pnmOpenRow.holds Tryz.pinned (OpenSpec.ofChange pnmOpenWrong)

/-- 'chequerlaw11.PnmReads': WHATEVER THE INPUT: true; the input reads as it did. -/
def pnmReadsSpec : ChangeSpec := { name := "pnmReads", fn := fun _ => fun
  | [d1, d2, d3, d4, d5, d6, d7] => { results := [.lit (.bool true)], args := [d1, d2, d3, d4, d5, d6, d7] }
  | _ => none }
def pnmReadsRow : OpenClaim := { program := "ytggamdlpiejbiaagreat", sum := "8a8e303ddf7e0fd82d0d1c3aa128ab3f31efba4f02c92e42ff6efc0cb1068740", func := "chequer/chequerlaw11.PnmReads", spec := "pnmReads", inPlace := ["internal/bytealg.IndexByteString"], unfollowed := true, recurses := true, apart := false }
def PnmReadsSaid : Prop := pnmReadsRow.holds Tryz.pinned (OpenSpec.ofChange pnmReadsSpec)

/-- ITS FALSE NEIGHBOUR: 'it returns false'. Refute it at one input. -/
def pnmReadsWrong : ChangeSpec := { name := "pnmReads", fn := fun _ => fun
  | [d1, d2, d3, d4, d5, d6, d7] => { results := [.lit (.bool false)], args := [d1, d2, d3, d4, d5, d6, d7] }
  | _ => none }
def PnmReadsWrongFalsely : Prop := pnmReadsRow.holds Tryz.pinned (OpenSpec.ofChange pnmReadsWrong)

/-- 'chequerlaw11.PnmTwice': WHATEVER THE INPUT: true; the input reads as it did. -/
def pnmTwiceSpec : ChangeSpec := { name := "pnmTwice", fn := fun _ => fun
  | [d1, d2] => { results := [.lit (.bool true)], args := [d1, d2] }
  | _ => none }
def pnmTwiceRow : OpenClaim := { program := "ytggamdlpiejbiaagreat", sum := "8a8e303ddf7e0fd82d0d1c3aa128ab3f31efba4f02c92e42ff6efc0cb1068740", func := "chequer/chequerlaw11.PnmTwice", spec := "pnmTwice", inPlace := ["internal/bytealg.IndexByteString"], unfollowed := true, recurses := true, apart := false }
def PnmTwiceSaid : Prop := pnmTwiceRow.holds Tryz.pinned (OpenSpec.ofChange pnmTwiceSpec)

/-- ITS FALSE NEIGHBOUR: 'it returns false'. Refute it at one input. -/
def pnmTwiceWrong : ChangeSpec := { name := "pnmTwice", fn := fun _ => fun
  | [d1, d2] => { results := [.lit (.bool false)], args := [d1, d2] }
  | _ => none }
def PnmTwiceWrongFalsely : Prop := pnmTwiceRow.holds Tryz.pinned (OpenSpec.ofChange pnmTwiceWrong)

/-- 'chequerlaw11.PnmAll': WHATEVER THE INPUT: true; the input reads as it did. -/
def pnmAllSpec : ChangeSpec := { name := "pnmAll", fn := fun _ => fun
  | [d1, d2, d3, d4, d5, d6, d7] => { results := [.lit (.bool true)], args := [d1, d2, d3, d4, d5, d6, d7] }
  | _ => none }
def pnmAllRow : OpenClaim := { program := "ytggamdlpiejbiaagreat", sum := "8a8e303ddf7e0fd82d0d1c3aa128ab3f31efba4f02c92e42ff6efc0cb1068740", func := "chequer/chequerlaw11.PnmAll", spec := "pnmAll", inPlace := ["internal/bytealg.IndexByteString"], unfollowed := true, recurses := true, apart := false }
def PnmAllSaid : Prop := pnmAllRow.holds Tryz.pinned (OpenSpec.ofChange pnmAllSpec)

/-- ITS FALSE NEIGHBOUR: 'it returns false'. Refute it at one input. -/
def pnmAllWrong : ChangeSpec := { name := "pnmAll", fn := fun _ => fun
  | [d1, d2, d3, d4, d5, d6, d7] => { results := [.lit (.bool false)], args := [d1, d2, d3, d4, d5, d6, d7] }
  | _ => none }
def PnmAllWrongFalsely : Prop := pnmAllRow.holds Tryz.pinned (OpenSpec.ofChange pnmAllWrong)

/-- 'chequerlaw11.PnmJoins': WHATEVER THE INPUT: true; the input reads as it did. -/
def pnmJoinsSpec : ChangeSpec := { name := "pnmJoins", fn := fun _ => fun
  | [d1, d2, d3] => { results := [.lit (.bool true)], args := [d1, d2, d3] }
  | _ => none }
def pnmJoinsRow : OpenClaim := { program := "ytggamdlpiejbiaagreat", sum := "8a8e303ddf7e0fd82d0d1c3aa128ab3f31efba4f02c92e42ff6efc0cb1068740", func := "chequer/chequerlaw11.PnmJoins", spec := "pnmJoins", inPlace := ["internal/bytealg.IndexByteString", "internal/abi.NoEscape", "internal/bytealg.MakeNoZero"], unfollowed := true, recurses := true, apart := false }
def PnmJoinsSaid : Prop := pnmJoinsRow.holds Tryz.pinned (OpenSpec.ofChange pnmJoinsSpec)

/-- ITS FALSE NEIGHBOUR: 'it returns false'. Refute it at one input. -/
def pnmJoinsWrong : ChangeSpec := { name := "pnmJoins", fn := fun _ => fun
  | [d1, d2, d3] => { results := [.lit (.bool false)], args := [d1, d2, d3] }
  | _ => none }
def PnmJoinsWrongFalsely : Prop := pnmJoinsRow.holds Tryz.pinned (OpenSpec.ofChange pnmJoinsWrong)

/-- 'chequerlaw10.ImageParses': WHATEVER THE INPUT: true; the input reads as it did. -/
def imageParsesSpec : ChangeSpec := { name := "imageParses", fn := fun _ => fun
  | [d1, d2, d3, d4, d5, d6] => { results := [.lit (.bool true)], args := [d1, d2, d3, d4, d5, d6] }
  | _ => none }
def imageParsesRow : OpenClaim := { program := "ytggamdlpiejbiaagreat", sum := "8a8e303ddf7e0fd82d0d1c3aa128ab3f31efba4f02c92e42ff6efc0cb1068740", func := "chequer/chequerlaw10.ImageParses", spec := "imageParses", inPlace := ["internal/bytealg.IndexByteString", "internal/abi.NoEscape", "internal/bytealg.MakeNoZero"], unfollowed := true, recurses := true, apart := false }
def ImageParsesSaid : Prop := imageParsesRow.holds Tryz.pinned (OpenSpec.ofChange imageParsesSpec)

/-- ITS FALSE NEIGHBOUR: 'it returns false'. Refute it at one input. -/
def imageParsesWrong : ChangeSpec := { name := "imageParses", fn := fun _ => fun
  | [d1, d2, d3, d4, d5, d6] => { results := [.lit (.bool false)], args := [d1, d2, d3, d4, d5, d6] }
  | _ => none }
def ImageParsesWrongFalsely : Prop := imageParsesRow.holds Tryz.pinned (OpenSpec.ofChange imageParsesWrong)

/-- 'chequerlaw10.ImageKinds': WHATEVER THE INPUT: true; the input reads as it did. -/
def imageKindsSpec : ChangeSpec := { name := "imageKinds", fn := fun _ => fun
  | [d] => { results := [.lit (.bool true)], args := [d] }
  | _ => none }
def imageKindsRow : OpenClaim := { program := "ytggamdlpiejbiaagreat", sum := "8a8e303ddf7e0fd82d0d1c3aa128ab3f31efba4f02c92e42ff6efc0cb1068740", func := "chequer/chequerlaw10.ImageKinds", spec := "imageKinds", inPlace := ["internal/bytealg.IndexByteString", "internal/abi.NoEscape", "internal/bytealg.MakeNoZero"], unfollowed := true, recurses := true, apart := false }
def ImageKindsSaid : Prop := imageKindsRow.holds Tryz.pinned (OpenSpec.ofChange imageKindsSpec)

/-- ITS FALSE NEIGHBOUR: 'it returns false'. Refute it at one input. -/
def imageKindsWrong : ChangeSpec := { name := "imageKinds", fn := fun _ => fun
  | [d] => { results := [.lit (.bool false)], args := [d] }
  | _ => none }
def ImageKindsWrongFalsely : Prop := imageKindsRow.holds Tryz.pinned (OpenSpec.ofChange imageKindsWrong)

/-- 'chequerlaw10.ImageCuts': WHATEVER THE INPUT: true; the input reads as it did. -/
def imageCutsSpec : ChangeSpec := { name := "imageCuts", fn := fun _ => fun
  | [d1, d2, d3] => { results := [.lit (.bool true)], args := [d1, d2, d3] }
  | _ => none }
def imageCutsRow : OpenClaim := { program := "ytggamdlpiejbiaagreat", sum := "8a8e303ddf7e0fd82d0d1c3aa128ab3f31efba4f02c92e42ff6efc0cb1068740", func := "chequer/chequerlaw10.ImageCuts", spec := "imageCuts", inPlace := ["internal/bytealg.IndexByteString", "internal/abi.NoEscape", "internal/bytealg.MakeNoZero"], unfollowed := true, recurses := true, apart := false }
def ImageCutsSaid : Prop := imageCutsRow.holds Tryz.pinned (OpenSpec.ofChange imageCutsSpec)

/-- ITS FALSE NEIGHBOUR: 'it returns false'. Refute it at one input. -/
def imageCutsWrong : ChangeSpec := { name := "imageCuts", fn := fun _ => fun
  | [d1, d2, d3] => { results := [.lit (.bool false)], args := [d1, d2, d3] }
  | _ => none }
def ImageCutsWrongFalsely : Prop := imageCutsRow.holds Tryz.pinned (OpenSpec.ofChange imageCutsWrong)

/-- 'chequerlaw10.ImageWrites': WHATEVER THE INPUT: true; the input reads as it did. -/
def imageWritesSpec : ChangeSpec := { name := "imageWrites", fn := fun _ => fun
  | [d1, d2, d3, d4] => { results := [.lit (.bool true)], args := [d1, d2, d3, d4] }
  | _ => none }
def imageWritesRow : OpenClaim := { program := "ytggamdlpiejbiaagreat", sum := "8a8e303ddf7e0fd82d0d1c3aa128ab3f31efba4f02c92e42ff6efc0cb1068740", func := "chequer/chequerlaw10.ImageWrites", spec := "imageWrites", inPlace := ["internal/bytealg.IndexByteString", "internal/abi.NoEscape", "internal/bytealg.MakeNoZero"], unfollowed := true, recurses := true, apart := false }
def ImageWritesSaid : Prop := imageWritesRow.holds Tryz.pinned (OpenSpec.ofChange imageWritesSpec)

/-- ITS FALSE NEIGHBOUR: 'it returns false'. Refute it at one input. -/
def imageWritesWrong : ChangeSpec := { name := "imageWrites", fn := fun _ => fun
  | [d1, d2, d3, d4] => { results := [.lit (.bool false)], args := [d1, d2, d3, d4] }
  | _ => none }
def ImageWritesWrongFalsely : Prop := imageWritesRow.holds Tryz.pinned (OpenSpec.ofChange imageWritesWrong)

/-- 'chequerlaw10.ImageFinds': WHATEVER THE INPUT: true; the input reads as it did. -/
def imageFindsSpec : ChangeSpec := { name := "imageFinds", fn := fun _ => fun
  | [d1, d2] => { results := [.lit (.bool true)], args := [d1, d2] }
  | _ => none }
def imageFindsRow : OpenClaim := { program := "ytggamdlpiejbiaagreat", sum := "8a8e303ddf7e0fd82d0d1c3aa128ab3f31efba4f02c92e42ff6efc0cb1068740", func := "chequer/chequerlaw10.ImageFinds", spec := "imageFinds", inPlace := ["internal/bytealg.IndexByteString", "internal/abi.NoEscape", "internal/bytealg.MakeNoZero"], unfollowed := true, recurses := true, apart := false }
def ImageFindsSaid : Prop := imageFindsRow.holds Tryz.pinned (OpenSpec.ofChange imageFindsSpec)

/-- ITS FALSE NEIGHBOUR: 'it returns false'. Refute it at one input. -/
def imageFindsWrong : ChangeSpec := { name := "imageFinds", fn := fun _ => fun
  | [d1, d2] => { results := [.lit (.bool false)], args := [d1, d2] }
  | _ => none }
def ImageFindsWrongFalsely : Prop := imageFindsRow.holds Tryz.pinned (OpenSpec.ofChange imageFindsWrong)

/-- 'chequerlaw10.ImageTurns': WHATEVER THE INPUT: true; the input reads as it did. -/
def imageTurnsSpec : ChangeSpec := { name := "imageTurns", fn := fun _ => fun
  | [d1, d2] => { results := [.lit (.bool true)], args := [d1, d2] }
  | _ => none }
def imageTurnsRow : OpenClaim := { program := "ytggamdlpiejbiaagreat", sum := "8a8e303ddf7e0fd82d0d1c3aa128ab3f31efba4f02c92e42ff6efc0cb1068740", func := "chequer/chequerlaw10.ImageTurns", spec := "imageTurns", inPlace := ["internal/bytealg.IndexByteString", "internal/abi.NoEscape", "internal/bytealg.MakeNoZero"], unfollowed := true, recurses := true, apart := false }
def ImageTurnsSaid : Prop := imageTurnsRow.holds Tryz.pinned (OpenSpec.ofChange imageTurnsSpec)

/-- ITS FALSE NEIGHBOUR: 'it returns false'. Refute it at one input. -/
def imageTurnsWrong : ChangeSpec := { name := "imageTurns", fn := fun _ => fun
  | [d1, d2] => { results := [.lit (.bool false)], args := [d1, d2] }
  | _ => none }
def ImageTurnsWrongFalsely : Prop := imageTurnsRow.holds Tryz.pinned (OpenSpec.ofChange imageTurnsWrong)

/- THE SECOND FORM. 'bulk': how many values and letters a reading holds, each counted each time it is reached (what is shared counts as often as it is met; a slice's spare places count too). A statement '..UptoSaid' is the law's where the arguments, and the package variables that the reading takes, are together of bulk at most 1048576: NARROWER than '..Said'. Prove '..Said' where nothing that the law and all that it calls make is longer than what came in: it says more and counts as full. Else prove '..UptoSaid'. A law counts once. -/
mutual
def uptoBulk {H : Type} : DataW H → Nat
  | .lit (.string bytes) => bytes.length + 1
  | .lit _ => 1
  | .nil => 1
  | .ptr d => uptoBulk d + 1
  | .slice elems spare => uptoBulkAll elems + uptoBulkAll spare + 1
  | .agg parts => uptoBulkAll parts + 1
  | .iface _ d => uptoBulk d + 1
  | .map entries => uptoBulkEntries entries + 1
  | .held _ => 1
def uptoBulkAll {H : Type} : List (DataW H) → Nat
  | [] => 0
  | d :: r => uptoBulk d + uptoBulkAll r
def uptoBulkEntries {H : Type} : List (Lit × DataW H) → Nat
  | [] => 0
  | x :: r => uptoBulkEntry x + uptoBulkEntries r
def uptoBulkEntry {H : Type} : Lit × DataW H → Nat
  | (.string bytes, d) => bytes.length + uptoBulk d + 1
  | (_, d) => uptoBulk d + 1
 end
def uptoSmall : (H : Type) → List (DataW H) → Bool := fun _ ds => decide (uptoBulkAll ds ≤ 1048576)
def OpenSpec.upto (s : _root_.Go.ChangeSpec) : _root_.Go.OpenSpec := { _root_.Go.OpenSpec.ofChange s with cond := some uptoSmall }

/-- 'chequerlaw11.PnmOpen', WHERE WHAT IT READS IS OF BULK AT MOST 1048576: true; the input reads as it did. -/
def pnmOpenUptoRow : OpenClaim := { program := "ytggamdlpiejbiaagreat", sum := "8a8e303ddf7e0fd82d0d1c3aa128ab3f31efba4f02c92e42ff6efc0cb1068740", func := "chequer/chequerlaw11.PnmOpen", spec := "pnmOpen", inPlace := ["internal/bytealg.IndexByteString"], unfollowed := true, recurses := true, apart := false, narrowed := true }
def PnmOpenUptoSaid : Prop := pnmOpenUptoRow.holds Tryz.pinned (OpenSpec.upto pnmOpenSpec)

/-- 'chequerlaw11.PnmReads', WHERE WHAT IT READS IS OF BULK AT MOST 1048576: true; the input reads as it did. -/
def pnmReadsUptoRow : OpenClaim := { program := "ytggamdlpiejbiaagreat", sum := "8a8e303ddf7e0fd82d0d1c3aa128ab3f31efba4f02c92e42ff6efc0cb1068740", func := "chequer/chequerlaw11.PnmReads", spec := "pnmReads", inPlace := ["internal/bytealg.IndexByteString"], unfollowed := true, recurses := true, apart := false, narrowed := true }
def PnmReadsUptoSaid : Prop := pnmReadsUptoRow.holds Tryz.pinned (OpenSpec.upto pnmReadsSpec)

/-- 'chequerlaw11.PnmTwice', WHERE WHAT IT READS IS OF BULK AT MOST 1048576: true; the input reads as it did. -/
def pnmTwiceUptoRow : OpenClaim := { program := "ytggamdlpiejbiaagreat", sum := "8a8e303ddf7e0fd82d0d1c3aa128ab3f31efba4f02c92e42ff6efc0cb1068740", func := "chequer/chequerlaw11.PnmTwice", spec := "pnmTwice", inPlace := ["internal/bytealg.IndexByteString"], unfollowed := true, recurses := true, apart := false, narrowed := true }
def PnmTwiceUptoSaid : Prop := pnmTwiceUptoRow.holds Tryz.pinned (OpenSpec.upto pnmTwiceSpec)

/-- 'chequerlaw11.PnmAll', WHERE WHAT IT READS IS OF BULK AT MOST 1048576: true; the input reads as it did. -/
def pnmAllUptoRow : OpenClaim := { program := "ytggamdlpiejbiaagreat", sum := "8a8e303ddf7e0fd82d0d1c3aa128ab3f31efba4f02c92e42ff6efc0cb1068740", func := "chequer/chequerlaw11.PnmAll", spec := "pnmAll", inPlace := ["internal/bytealg.IndexByteString"], unfollowed := true, recurses := true, apart := false, narrowed := true }
def PnmAllUptoSaid : Prop := pnmAllUptoRow.holds Tryz.pinned (OpenSpec.upto pnmAllSpec)

/-- 'chequerlaw11.PnmJoins', WHERE WHAT IT READS IS OF BULK AT MOST 1048576: true; the input reads as it did. -/
def pnmJoinsUptoRow : OpenClaim := { program := "ytggamdlpiejbiaagreat", sum := "8a8e303ddf7e0fd82d0d1c3aa128ab3f31efba4f02c92e42ff6efc0cb1068740", func := "chequer/chequerlaw11.PnmJoins", spec := "pnmJoins", inPlace := ["internal/bytealg.IndexByteString", "internal/abi.NoEscape", "internal/bytealg.MakeNoZero"], unfollowed := true, recurses := true, apart := false, narrowed := true }
def PnmJoinsUptoSaid : Prop := pnmJoinsUptoRow.holds Tryz.pinned (OpenSpec.upto pnmJoinsSpec)

/-- 'chequerlaw10.ImageParses', WHERE WHAT IT READS IS OF BULK AT MOST 1048576: true; the input reads as it did. -/
def imageParsesUptoRow : OpenClaim := { program := "ytggamdlpiejbiaagreat", sum := "8a8e303ddf7e0fd82d0d1c3aa128ab3f31efba4f02c92e42ff6efc0cb1068740", func := "chequer/chequerlaw10.ImageParses", spec := "imageParses", inPlace := ["internal/bytealg.IndexByteString", "internal/abi.NoEscape", "internal/bytealg.MakeNoZero"], unfollowed := true, recurses := true, apart := false, narrowed := true }
def ImageParsesUptoSaid : Prop := imageParsesUptoRow.holds Tryz.pinned (OpenSpec.upto imageParsesSpec)

/-- 'chequerlaw10.ImageKinds', WHERE WHAT IT READS IS OF BULK AT MOST 1048576: true; the input reads as it did. -/
def imageKindsUptoRow : OpenClaim := { program := "ytggamdlpiejbiaagreat", sum := "8a8e303ddf7e0fd82d0d1c3aa128ab3f31efba4f02c92e42ff6efc0cb1068740", func := "chequer/chequerlaw10.ImageKinds", spec := "imageKinds", inPlace := ["internal/bytealg.IndexByteString", "internal/abi.NoEscape", "internal/bytealg.MakeNoZero"], unfollowed := true, recurses := true, apart := false, narrowed := true }
def ImageKindsUptoSaid : Prop := imageKindsUptoRow.holds Tryz.pinned (OpenSpec.upto imageKindsSpec)

/-- 'chequerlaw10.ImageCuts', WHERE WHAT IT READS IS OF BULK AT MOST 1048576: true; the input reads as it did. -/
def imageCutsUptoRow : OpenClaim := { program := "ytggamdlpiejbiaagreat", sum := "8a8e303ddf7e0fd82d0d1c3aa128ab3f31efba4f02c92e42ff6efc0cb1068740", func := "chequer/chequerlaw10.ImageCuts", spec := "imageCuts", inPlace := ["internal/bytealg.IndexByteString", "internal/abi.NoEscape", "internal/bytealg.MakeNoZero"], unfollowed := true, recurses := true, apart := false, narrowed := true }
def ImageCutsUptoSaid : Prop := imageCutsUptoRow.holds Tryz.pinned (OpenSpec.upto imageCutsSpec)

/-- 'chequerlaw10.ImageWrites', WHERE WHAT IT READS IS OF BULK AT MOST 1048576: true; the input reads as it did. -/
def imageWritesUptoRow : OpenClaim := { program := "ytggamdlpiejbiaagreat", sum := "8a8e303ddf7e0fd82d0d1c3aa128ab3f31efba4f02c92e42ff6efc0cb1068740", func := "chequer/chequerlaw10.ImageWrites", spec := "imageWrites", inPlace := ["internal/bytealg.IndexByteString", "internal/abi.NoEscape", "internal/bytealg.MakeNoZero"], unfollowed := true, recurses := true, apart := false, narrowed := true }
def ImageWritesUptoSaid : Prop := imageWritesUptoRow.holds Tryz.pinned (OpenSpec.upto imageWritesSpec)

/-- 'chequerlaw10.ImageFinds', WHERE WHAT IT READS IS OF BULK AT MOST 1048576: true; the input reads as it did. -/
def imageFindsUptoRow : OpenClaim := { program := "ytggamdlpiejbiaagreat", sum := "8a8e303ddf7e0fd82d0d1c3aa128ab3f31efba4f02c92e42ff6efc0cb1068740", func := "chequer/chequerlaw10.ImageFinds", spec := "imageFinds", inPlace := ["internal/bytealg.IndexByteString", "internal/abi.NoEscape", "internal/bytealg.MakeNoZero"], unfollowed := true, recurses := true, apart := false, narrowed := true }
def ImageFindsUptoSaid : Prop := imageFindsUptoRow.holds Tryz.pinned (OpenSpec.upto imageFindsSpec)

/-- 'chequerlaw10.ImageTurns', WHERE WHAT IT READS IS OF BULK AT MOST 1048576: true; the input reads as it did. -/
def imageTurnsUptoRow : OpenClaim := { program := "ytggamdlpiejbiaagreat", sum := "8a8e303ddf7e0fd82d0d1c3aa128ab3f31efba4f02c92e42ff6efc0cb1068740", func := "chequer/chequerlaw10.ImageTurns", spec := "imageTurns", inPlace := ["internal/bytealg.IndexByteString", "internal/abi.NoEscape", "internal/bytealg.MakeNoZero"], unfollowed := true, recurses := true, apart := false, narrowed := true }
def ImageTurnsUptoSaid : Prop := imageTurnsUptoRow.holds Tryz.pinned (OpenSpec.upto imageTurnsSpec)

end Rows
end Go.Proofs.YtggamdlpiejbiaaGreat
