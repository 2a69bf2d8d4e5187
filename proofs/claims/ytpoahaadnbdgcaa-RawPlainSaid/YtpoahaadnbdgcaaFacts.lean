/- Facts of this translation, by the kernel: types, functions. -/
import Derived.Test.YtpoahaadnbdgcaaProg
import Derived.Test.YtpoahaadnbdgcaaLoop
import Derived.KernelRfl
namespace Go.Proofs.Ytpoahaadnbdgcaa
open Go.RowKit Go.Shelf

theorem mixed : Try.prog.follows .mixedOrders = true := by kernel_rfl
instance : Scal Try.prog 3 := ⟨fun _ => by kernel_rfl, fun _ => by kernel_rfl⟩
instance : Scal Try.prog 5 := ⟨fun _ => by kernel_rfl, fun _ => by kernel_rfl⟩
instance : Scal Try.prog 9 := ⟨fun _ => by kernel_rfl, fun _ => by kernel_rfl⟩
instance : Scal Try.prog 24 := ⟨fun _ => by kernel_rfl, fun _ => by kernel_rfl⟩
instance : Scal Try.prog 26 := ⟨fun _ => by kernel_rfl, fun _ => by kernel_rfl⟩
instance : Scal Try.prog 28 := ⟨fun _ => by kernel_rfl, fun _ => by kernel_rfl⟩
instance : Scal Try.prog 29 := ⟨fun _ => by kernel_rfl, fun _ => by kernel_rfl⟩
instance : Scal Try.prog 45 := ⟨fun _ => by kernel_rfl, fun _ => by kernel_rfl⟩
instance : Scal Try.prog 46 := ⟨fun _ => by kernel_rfl, fun _ => by kernel_rfl⟩
instance : Scal Try.prog 62 := ⟨fun _ => by kernel_rfl, fun _ => by kernel_rfl⟩
instance : Scal Try.prog 75 := ⟨fun _ => by kernel_rfl, fun _ => by kernel_rfl⟩
instance : Scal Try.prog 91 := ⟨fun _ => by kernel_rfl, fun _ => by kernel_rfl⟩
instance : AggT Try.prog 23 4 := ⟨fun _ => by kernel_rfl, fun _ => by kernel_rfl⟩
instance : AggT Try.prog 32 4 := ⟨fun _ => by kernel_rfl, fun _ => by kernel_rfl⟩
instance : AggT Try.prog 43 2 := ⟨fun _ => by kernel_rfl, fun _ => by kernel_rfl⟩
instance : AggT Try.prog 89 3 := ⟨fun _ => by kernel_rfl, fun _ => by kernel_rfl⟩
instance : AggT Try.prog 121 8 := ⟨fun _ => by kernel_rfl, fun _ => by kernel_rfl⟩
instance : FOff Try.prog 23 0 0 := ⟨fun _ _ _ => by kernel_rfl⟩
instance : FOff Try.prog 23 1 1 := ⟨fun _ _ _ => by kernel_rfl⟩
instance : FOff Try.prog 23 2 2 := ⟨fun _ _ _ => by kernel_rfl⟩
instance : FOff Try.prog 23 3 3 := ⟨fun _ _ _ => by kernel_rfl⟩
instance : FOff Try.prog 32 0 0 := ⟨fun _ _ _ => by kernel_rfl⟩
instance : FOff Try.prog 32 1 1 := ⟨fun _ _ _ => by kernel_rfl⟩
instance : FOff Try.prog 32 2 2 := ⟨fun _ _ _ => by kernel_rfl⟩
instance : FOff Try.prog 32 3 3 := ⟨fun _ _ _ => by kernel_rfl⟩
instance : FOff Try.prog 43 0 0 := ⟨fun _ _ _ => by kernel_rfl⟩
instance : FOff Try.prog 43 1 1 := ⟨fun _ _ _ => by kernel_rfl⟩
instance : FOff Try.prog 64 0 0 := ⟨fun _ _ _ => by kernel_rfl⟩
instance : FOff Try.prog 64 1 1 := ⟨fun _ _ _ => by kernel_rfl⟩
instance : FOff Try.prog 78 0 0 := ⟨fun _ _ _ => by kernel_rfl⟩
instance : FOff Try.prog 78 1 4 := ⟨fun _ _ _ => by kernel_rfl⟩
instance : FOff Try.prog 78 2 5 := ⟨fun _ _ _ => by kernel_rfl⟩
instance : FOff Try.prog 78 3 6 := ⟨fun _ _ _ => by kernel_rfl⟩
instance : FOff Try.prog 78 4 7 := ⟨fun _ _ _ => by kernel_rfl⟩
instance : FOff Try.prog 78 5 8 := ⟨fun _ _ _ => by kernel_rfl⟩
instance : FOff Try.prog 94 0 0 := ⟨fun _ _ _ => by kernel_rfl⟩
instance : FOff Try.prog 94 1 4 := ⟨fun _ _ _ => by kernel_rfl⟩
instance : FOff Try.prog 94 2 5 := ⟨fun _ _ _ => by kernel_rfl⟩
instance : FOff Try.prog 94 3 6 := ⟨fun _ _ _ => by kernel_rfl⟩
instance : FOff Try.prog 94 4 7 := ⟨fun _ _ _ => by kernel_rfl⟩
instance : FOff Try.prog 94 5 8 := ⟨fun _ _ _ => by kernel_rfl⟩
instance : FOff Try.prog 94 6 9 := ⟨fun _ _ _ => by kernel_rfl⟩
instance : FOff Try.prog 94 7 10 := ⟨fun _ _ _ => by kernel_rfl⟩
instance : FVal Try.prog 43 0 0 := ⟨fun cs v w h => by
  have e : (Instr.field 43 (.agg cs) 0).run Try.prog w = (match cs[0]? with | some v => (pure v : Sem Value) | none => stuck "part: no such cell").run Try.prog w := by kernel_rfl
  rw [e, h]; rfl⟩
instance : ZeroT Try.prog 23 [.int .i64 0, .int .i64 0, .int .i64 0, .int .i64 0] := ⟨fun _ => .inl (by kernel_rfl)⟩
instance : ZeroT Try.prog 24 [.slice none 0 0] := ⟨fun _ => .inr ⟨.slice none 0 0, by kernel_rfl, rfl⟩⟩
instance : ZeroT Try.prog 26 [.slice none 0 0] := ⟨fun _ => .inr ⟨.slice none 0 0, by kernel_rfl, rfl⟩⟩
instance : ZeroT Try.prog 28 [.slice none 0 0] := ⟨fun _ => .inr ⟨.slice none 0 0, by kernel_rfl, rfl⟩⟩
instance : ZeroT Try.prog 43 [.int .i64 0, .int .i64 0] := ⟨fun _ => .inl (by kernel_rfl)⟩
instance : ZeroT Try.prog 64 [.pointer none, .slice none 0 0] := ⟨fun _ => .inl (by kernel_rfl)⟩
instance : ZeroT Try.prog 89 [.int .i64 0, .int .i64 0, .int .i64 0] := ⟨fun _ => .inl (by kernel_rfl)⟩
instance : ZeroT Try.prog 121 [.int .i64 0, .int .i64 0, .int .i64 0, .int .i64 0, .int .i64 0, .int .i64 0, .int .i64 0, .int .i64 0] := ⟨fun _ => .inl (by kernel_rfl)⟩
instance : BldT Try.prog 23 [.int .i64 0, .int .i64 0, .int .i64 0, .int .i64 0] [(0, 1), (1, 1), (2, 1), (3, 1)] := ⟨fun _ => by kernel_rfl⟩
instance : BldT Try.prog 32 [.int .i64 0, .int .i64 0, .int .i64 0, .int .i64 0] [(0, 1), (1, 1), (2, 1), (3, 1)] := ⟨fun _ => by kernel_rfl⟩
instance : BldT Try.prog 43 [.int .i64 0, .int .i64 0] [(0, 1), (1, 1)] := ⟨fun _ => by kernel_rfl⟩
instance : BldT Try.prog 78 [.int .i64 0, .int .i64 0, .int .i64 0, .int .i64 0, .slice none 0 0, .int .i64 0, .int .i64 0, .int .i64 0, .int .i64 0] [(0, 4), (4, 1), (5, 1), (6, 1), (7, 1), (8, 1)] := ⟨fun _ => by kernel_rfl⟩
instance : BldT Try.prog 89 [.int .i64 0, .int .i64 0, .int .i64 0] [(0, 1), (1, 1), (2, 1)] := ⟨fun vs => (show Try.prog.built 89 vs = Instr.fill (fun i => some (i * 1, 1)) #[.int .i64 0, .int .i64 0, .int .i64 0] vs by kernel_rfl).trans (fill_arr 3 vs _ rfl)⟩
instance : BldT Try.prog 94 [.int .i64 0, .int .i64 0, .int .i64 0, .int .i64 0, .nilFunc, .int .i64 0, .slice none 0 0, .slice none 0 0, .int .i64 0, .int .i64 0, .int .i64 0] [(0, 4), (4, 1), (5, 1), (6, 1), (7, 1), (8, 1), (9, 1), (10, 1)] := ⟨fun _ => by kernel_rfl⟩
instance : SlT Try.prog 24 3 1 8 (.int .i64 0) := ⟨by kernel_rfl, by kernel_rfl⟩
instance : SlT Try.prog 26 46 1 8 (.int .u64 0) := ⟨by kernel_rfl, by kernel_rfl⟩
instance : SlT Try.prog 28 5 1 1 (.int .u8 0) := ⟨by kernel_rfl, by kernel_rfl⟩
instance : SlT Try.prog 72 9 1 16 (.string ⟨#[]⟩) := ⟨by kernel_rfl, by kernel_rfl⟩
instance : ArT Try.prog 89 3 3 := ⟨by kernel_rfl, fun _ => by kernel_rfl⟩
instance : ArT Try.prog 121 8 3 := ⟨by kernel_rfl, fun _ => by kernel_rfl⟩
instance : IntT Try.prog 3 .i64 := ⟨by kernel_rfl⟩
instance : IntT Try.prog 5 .u8 := ⟨by kernel_rfl⟩
instance : IntT Try.prog 45 .u64 := ⟨by kernel_rfl⟩
instance : IntT Try.prog 46 .u64 := ⟨by kernel_rfl⟩
instance : Ent1 Try.prog 3 := ⟨enters_of Try.func3 (by kernel_rfl) rfl⟩
instance : Ent1 Try.prog 4 := ⟨enters_of Try.func4 (by kernel_rfl) rfl⟩
instance : Ent1 Try.prog 5 := ⟨enters_of Try.func5 (by kernel_rfl) rfl⟩
instance : Ent1 Try.prog 6 := ⟨enters_of Try.func6 (by kernel_rfl) rfl⟩
instance : Ent1 Try.prog 7 := ⟨enters_of Try.func7 (by kernel_rfl) rfl⟩
instance : Ent1 Try.prog 8 := ⟨enters_of Try.func8 (by kernel_rfl) rfl⟩
instance : Ent1 Try.prog 9 := ⟨enters_of Try.func9 (by kernel_rfl) rfl⟩
instance : Ent1 Try.prog 10 := ⟨enters_of Try.func10 (by kernel_rfl) rfl⟩
instance : Ent1 Try.prog 11 := ⟨enters_of Try.func11 (by kernel_rfl) rfl⟩
instance : Ent1 Try.prog 12 := ⟨enters_of Try.func12 (by kernel_rfl) rfl⟩
instance : Ent1 Try.prog 13 := ⟨enters_of Try.func13 (by kernel_rfl) rfl⟩
instance : Ent1 Try.prog 14 := ⟨enters_of Try.func14 (by kernel_rfl) rfl⟩
instance : Ent1 Try.prog 15 := ⟨enters_of Try.func15 (by kernel_rfl) rfl⟩
instance : Ent1 Try.prog 16 := ⟨enters_of Try.func16 (by kernel_rfl) rfl⟩
instance : Ent1 Try.prog 17 := ⟨enters_of Try.func17 (by kernel_rfl) rfl⟩
instance : Ent1 Try.prog 18 := ⟨enters_of Try.func18 (by kernel_rfl) rfl⟩
instance : Ent1 Try.prog 19 := ⟨enters_of Try.func19 (by kernel_rfl) rfl⟩
instance : Ent1 Try.prog 20 := ⟨enters_of Try.func20 (by kernel_rfl) rfl⟩
instance : Ent1 Try.prog 21 := ⟨enters_of Try.func21 (by kernel_rfl) rfl⟩
instance : Ent1 Try.prog 22 := ⟨enters_of Try.func22 (by kernel_rfl) rfl⟩
instance : Ent1 Try.prog 23 := ⟨enters_of Try.func23 (by kernel_rfl) rfl⟩
instance : Ent1 Try.prog 24 := ⟨enters_of Try.func24 (by kernel_rfl) rfl⟩
instance : Ent1 Try.prog 25 := ⟨enters_of Try.func25 (by kernel_rfl) rfl⟩
instance : Ent1 Try.prog 26 := ⟨enters_of Try.func26 (by kernel_rfl) rfl⟩
instance : Ent1 Try.prog 27 := ⟨enters_of Try.func27 (by kernel_rfl) rfl⟩
instance : Ent1 Try.prog 28 := ⟨enters_of Try.func28 (by kernel_rfl) rfl⟩
instance : Ent1 Try.prog 29 := ⟨enters_of Try.func29 (by kernel_rfl) rfl⟩
instance : Ent1 Try.prog 30 := ⟨enters_of Try.func30 (by kernel_rfl) rfl⟩
instance : Ent1 Try.prog 31 := ⟨enters_of Try.func31 (by kernel_rfl) rfl⟩
instance : Ent1 Try.prog 32 := ⟨enters_of Try.func32 (by kernel_rfl) rfl⟩
instance : Ent1 Try.prog 33 := ⟨enters_of Try.func33 (by kernel_rfl) rfl⟩
instance : Ent1 Try.prog 34 := ⟨enters_of Try.func34 (by kernel_rfl) rfl⟩
instance : Ent1 Try.prog 35 := ⟨enters_of Try.func35 (by kernel_rfl) rfl⟩
instance : Ent1 Try.prog 36 := ⟨enters_of Try.func36 (by kernel_rfl) rfl⟩
instance : Ent1 Try.prog 37 := ⟨enters_of Try.func37 (by kernel_rfl) rfl⟩
instance : Ent1 Try.prog 38 := ⟨enters_of Try.func38 (by kernel_rfl) rfl⟩
instance : Ent1 Try.prog 39 := ⟨enters_of Try.func39 (by kernel_rfl) rfl⟩
instance : Ent1 Try.prog 40 := ⟨enters_of Try.func40 (by kernel_rfl) rfl⟩
instance : Ent1 Try.prog 41 := ⟨enters_of Try.func41 (by kernel_rfl) rfl⟩
instance : Ent1 Try.prog 42 := ⟨enters_of Try.func42 (by kernel_rfl) rfl⟩
instance : Ent1 Try.prog 43 := ⟨enters_of Try.func43 (by kernel_rfl) rfl⟩
instance : Ent1 Try.prog 44 := ⟨enters_of Try.func44 (by kernel_rfl) rfl⟩
instance : Ent1 Try.prog 45 := ⟨enters_of Try.func45 (by kernel_rfl) rfl⟩
instance : Ent1 Try.prog 46 := ⟨enters_of Try.func46 (by kernel_rfl) rfl⟩
instance : Ent1 Try.prog 47 := ⟨enters_of Try.func47 (by kernel_rfl) rfl⟩
instance : Ent1 Try.prog 48 := ⟨enters_of Try.func48 (by kernel_rfl) rfl⟩
instance : Ent1 Try.prog 49 := ⟨enters_of Try.func49 (by kernel_rfl) rfl⟩
instance : Ent1 Try.prog 50 := ⟨enters_of Try.func50 (by kernel_rfl) rfl⟩
instance : Ent1 Try.prog 51 := ⟨enters_of Try.func51 (by kernel_rfl) rfl⟩
instance : Ent1 Try.prog 52 := ⟨enters_of Try.func52 (by kernel_rfl) rfl⟩
instance : Ent1 Try.prog 53 := ⟨enters_of Try.func53 (by kernel_rfl) rfl⟩
instance : Ent1 Try.prog 54 := ⟨enters_of Try.func54 (by kernel_rfl) rfl⟩
instance : Ent1 Try.prog 55 := ⟨enters_of Try.func55 (by kernel_rfl) rfl⟩
instance : Ent1 Try.prog 56 := ⟨enters_of Try.func56 (by kernel_rfl) rfl⟩
instance : Ent1 Try.prog 57 := ⟨enters_of Try.func57 (by kernel_rfl) rfl⟩
instance : Ent1 Try.prog 58 := ⟨enters_of Try.func58 (by kernel_rfl) rfl⟩
instance : Ent1 Try.prog 59 := ⟨enters_of Try.func59 (by kernel_rfl) rfl⟩
instance : Ent1 Try.prog 60 := ⟨enters_of Try.func60 (by kernel_rfl) rfl⟩
instance : Ent1 Try.prog 61 := ⟨enters_of Try.func61 (by kernel_rfl) rfl⟩
instance : Ent1 Try.prog 62 := ⟨enters_of Try.func62 (by kernel_rfl) rfl⟩
instance : Ent1 Try.prog 64 := ⟨enters_of Try.func64 (by kernel_rfl) rfl⟩
instance : Ent1 Try.prog 65 := ⟨enters_of Try.func65 (by kernel_rfl) rfl⟩
instance : Ent1 Try.prog 66 := ⟨enters_of Try.func66 (by kernel_rfl) rfl⟩
instance : Ent1 Try.prog 67 := ⟨enters_of Try.func67 (by kernel_rfl) rfl⟩
instance : Ent1 Try.prog 68 := ⟨enters_of Try.func68 (by kernel_rfl) rfl⟩
instance : Ent1 Try.prog 69 := ⟨enters_of Try.func69 (by kernel_rfl) rfl⟩
instance : Ent1 Try.prog 71 := ⟨enters_of Try.func71 (by kernel_rfl) rfl⟩
instance : Ent1 Try.prog 72 := ⟨enters_of Try.func72 (by kernel_rfl) rfl⟩
instance : Ent1 Try.prog 73 := ⟨enters_of Try.func73 (by kernel_rfl) rfl⟩
instance : Ent1 Try.prog 74 := ⟨enters_of Try.func74 (by kernel_rfl) rfl⟩
instance : Ent1 Try.prog 75 := ⟨enters_of Try.func75 (by kernel_rfl) rfl⟩
end Go.Proofs.Ytpoahaadnbdgcaa
