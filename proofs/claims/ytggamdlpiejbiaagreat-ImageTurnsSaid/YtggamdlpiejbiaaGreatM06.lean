/- Walks and plain laws, a part of the proof of ImageTurns: every input that the law's guards let in, no condition beside. -/
import Derived.ChangeArms
import Derived.Test.YtggamdlpiejbiaaGreatProg
import Derived.KernelRfl
import Derived.Shelf.Strings.Builder1
import Derived.Shelf.Strings.OnBuilder
import Derived.Shelf.Small.Strs
import Derived.Shelf.Strings.Search1
import Derived.Test.YtggamdlpiejbiaaGreatM05
namespace Go.Proofs.YtggamdlpiejbiaaGreat
open Go.RowKit Go.Shelf Go.ChangeShapes Go.WideShapes Go.ChangeAt
theorem open_nums {H : Type} {enc : TypeId × Value → H} {P : Program} {W : World} {sp : Nat → Bool} {held : Bool} {t e : Nat} {k : IntKind} {fuel : Nat} {cs : List Value} {x : DataW H × List MemPlace} (ht : P.underlying t = some (.slice e)) (he : P.underlying e = some (.int k)) (hc : P.cellsOf e = 1)
    (h : DataW.trod enc P W 0 sp held fuel t cs = some x) : ∃ (a : Option Addr) (n c : Nat) (zs : List Int), cs = [.slice a n c] ∧ zs.length = n ∧ n ≤ c ∧ c ≤ maxLen ∧ (∀ z ∈ zs, (Lit.int k z).wf = true) ∧ RdsL [oldW W] a (zs.map (Value.int k)) := by
  rcases open_ints ht he hc h with ⟨hcs, _⟩ | ⟨ad, l, c, zs, hcs, _, hl, hm, hz, _, hcell, hwz⟩
  · exact ⟨none, 0, 0, [], hcs, rfl, Nat.le_refl _, by simp [maxLen], by simp, RdsL.nil⟩
  · have hzl : l ≤ zs.length := by rw [hz]; split <;> omega
    refine ⟨some ad, l, c, zs.take l, hcs, by rw [List.length_take]; omega, hl, hm, fun z hz2 => hwz z (List.mem_of_mem_take hz2), RdsL.old (.inr ⟨ad, rfl, fun j u hu => ?_⟩)⟩
    rw [List.getElem?_map] at hu
    obtain ⟨y, hy, rfl⟩ := Option.map_eq_some_iff.1 hu
    obtain ⟨hj, hy⟩ := List.getElem?_eq_some_iff.1 hy
    rw [List.length_take] at hj
    rw [hcell j (by omega), ← hy, List.getElem_take]
    simp [List.getD, List.getElem?_eq_getElem (show j < zs.length by omega)]
end Go.Proofs.YtggamdlpiejbiaaGreat
namespace Go.Proofs.YtggamdlpiejbiaaGreat
open Go.RowKit Go.Shelf Go.ChangeShapes Go.WideShapes Go.ChangeAt
theorem len5 {α : Type} : ∀ {l : List α}, l.length = 5 → ∃ a0 a1 a2 a3 a4, l = [a0, a1, a2, a3, a4]
  | [a0, a1, a2, a3, a4], _ => ⟨a0, a1, a2, a3, a4, rfl⟩
end Go.Proofs.YtggamdlpiejbiaaGreat
namespace Go.Proofs.YtggamdlpiejbiaaGreat
open Go.RowKit Go.Shelf

theorem mixed : Tryz.prog.follows .mixedOrders = true := by kernel_rfl
instance : Scal Tryz.prog 3 := ⟨fun _ => by kernel_rfl, fun _ => by kernel_rfl⟩
instance : Scal Tryz.prog 4 := ⟨fun _ => by kernel_rfl, fun _ => by kernel_rfl⟩
instance : Scal Tryz.prog 5 := ⟨fun _ => by kernel_rfl, fun _ => by kernel_rfl⟩
instance : Scal Tryz.prog 22 := ⟨fun _ => by kernel_rfl, fun _ => by kernel_rfl⟩
instance : Scal Tryz.prog 26 := ⟨fun _ => by kernel_rfl, fun _ => by kernel_rfl⟩
instance : Scal Tryz.prog 31 := ⟨fun _ => by kernel_rfl, fun _ => by kernel_rfl⟩
instance : Scal Tryz.prog 49 := ⟨fun _ => by kernel_rfl, fun _ => by kernel_rfl⟩
instance : Scal Tryz.prog 91 := ⟨fun _ => by kernel_rfl, fun _ => by kernel_rfl⟩
instance : Scal Tryz.prog 92 := ⟨fun _ => by kernel_rfl, fun _ => by kernel_rfl⟩
instance : Scal Tryz.prog 127 := ⟨fun _ => by kernel_rfl, fun _ => by kernel_rfl⟩
instance : Scal Tryz.prog 184 := ⟨fun _ => by kernel_rfl, fun _ => by kernel_rfl⟩
instance : Scal Tryz.prog 192 := ⟨fun _ => by kernel_rfl, fun _ => by kernel_rfl⟩
instance : Scal Tryz.prog 205 := ⟨fun _ => by kernel_rfl, fun _ => by kernel_rfl⟩
instance : Scal Tryz.prog 232 := ⟨fun _ => by kernel_rfl, fun _ => by kernel_rfl⟩
instance : Scal Tryz.prog 255 := ⟨fun _ => by kernel_rfl, fun _ => by kernel_rfl⟩
instance : AggT Tryz.prog 24 3 := ⟨fun _ => by kernel_rfl, fun _ => by kernel_rfl⟩
instance : AggT Tryz.prog 48 2 := ⟨fun _ => by kernel_rfl, fun _ => by kernel_rfl⟩
instance : AggT Tryz.prog 69 3 := ⟨fun _ => by kernel_rfl, fun _ => by kernel_rfl⟩
instance : AggT Tryz.prog 71 5 := ⟨fun _ => by kernel_rfl, fun _ => by kernel_rfl⟩
instance : AggT Tryz.prog 74 5 := ⟨fun _ => by kernel_rfl, fun _ => by kernel_rfl⟩
instance : AggT Tryz.prog 77 3 := ⟨fun _ => by kernel_rfl, fun _ => by kernel_rfl⟩
instance : AggT Tryz.prog 79 5 := ⟨fun _ => by kernel_rfl, fun _ => by kernel_rfl⟩
instance : AggT Tryz.prog 98 4 := ⟨fun _ => by kernel_rfl, fun _ => by kernel_rfl⟩
instance : AggT Tryz.prog 231 3 := ⟨fun _ => by kernel_rfl, fun _ => by kernel_rfl⟩
instance : AggT Tryz.prog 271 8 := ⟨fun _ => by kernel_rfl, fun _ => by kernel_rfl⟩
instance : FOff Tryz.prog 24 0 0 := ⟨fun _ _ _ => by kernel_rfl⟩
instance : FOff Tryz.prog 24 1 1 := ⟨fun _ _ _ => by kernel_rfl⟩
instance : FOff Tryz.prog 24 2 2 := ⟨fun _ _ _ => by kernel_rfl⟩
instance : FOff Tryz.prog 48 0 0 := ⟨fun _ _ _ => by kernel_rfl⟩
instance : FOff Tryz.prog 48 1 1 := ⟨fun _ _ _ => by kernel_rfl⟩
instance : FOff Tryz.prog 69 0 0 := ⟨fun _ _ _ => by kernel_rfl⟩
instance : FOff Tryz.prog 69 1 1 := ⟨fun _ _ _ => by kernel_rfl⟩
instance : FOff Tryz.prog 69 2 2 := ⟨fun _ _ _ => by kernel_rfl⟩
instance : FOff Tryz.prog 71 0 0 := ⟨fun _ _ _ => by kernel_rfl⟩
instance : FOff Tryz.prog 71 1 2 := ⟨fun _ _ _ => by kernel_rfl⟩
instance : FOff Tryz.prog 74 0 0 := ⟨fun _ _ _ => by kernel_rfl⟩
instance : FOff Tryz.prog 74 1 1 := ⟨fun _ _ _ => by kernel_rfl⟩
instance : FOff Tryz.prog 74 2 2 := ⟨fun _ _ _ => by kernel_rfl⟩
instance : FOff Tryz.prog 74 3 3 := ⟨fun _ _ _ => by kernel_rfl⟩
instance : FOff Tryz.prog 74 4 4 := ⟨fun _ _ _ => by kernel_rfl⟩
instance : FOff Tryz.prog 77 0 0 := ⟨fun _ _ _ => by kernel_rfl⟩
instance : FOff Tryz.prog 77 1 1 := ⟨fun _ _ _ => by kernel_rfl⟩
instance : FOff Tryz.prog 77 2 2 := ⟨fun _ _ _ => by kernel_rfl⟩
instance : FOff Tryz.prog 79 0 0 := ⟨fun _ _ _ => by kernel_rfl⟩
instance : FOff Tryz.prog 79 1 2 := ⟨fun _ _ _ => by kernel_rfl⟩
instance : FOff Tryz.prog 98 0 0 := ⟨fun _ _ _ => by kernel_rfl⟩
instance : FOff Tryz.prog 98 1 1 := ⟨fun _ _ _ => by kernel_rfl⟩
instance : FOff Tryz.prog 98 2 2 := ⟨fun _ _ _ => by kernel_rfl⟩
instance : FOff Tryz.prog 98 3 3 := ⟨fun _ _ _ => by kernel_rfl⟩
instance : FOff Tryz.prog 186 0 0 := ⟨fun _ _ _ => by kernel_rfl⟩
instance : FOff Tryz.prog 186 1 4 := ⟨fun _ _ _ => by kernel_rfl⟩
instance : FOff Tryz.prog 186 2 5 := ⟨fun _ _ _ => by kernel_rfl⟩
instance : FOff Tryz.prog 186 3 6 := ⟨fun _ _ _ => by kernel_rfl⟩
instance : FOff Tryz.prog 186 4 7 := ⟨fun _ _ _ => by kernel_rfl⟩
instance : FOff Tryz.prog 186 5 8 := ⟨fun _ _ _ => by kernel_rfl⟩
instance : FOff Tryz.prog 186 6 9 := ⟨fun _ _ _ => by kernel_rfl⟩
instance : FOff Tryz.prog 186 7 10 := ⟨fun _ _ _ => by kernel_rfl⟩
instance : FOff Tryz.prog 198 0 0 := ⟨fun _ _ _ => by kernel_rfl⟩
instance : FOff Tryz.prog 198 1 4 := ⟨fun _ _ _ => by kernel_rfl⟩
instance : FOff Tryz.prog 198 2 5 := ⟨fun _ _ _ => by kernel_rfl⟩
instance : FOff Tryz.prog 198 3 6 := ⟨fun _ _ _ => by kernel_rfl⟩
instance : FOff Tryz.prog 198 4 7 := ⟨fun _ _ _ => by kernel_rfl⟩
instance : FOff Tryz.prog 198 5 8 := ⟨fun _ _ _ => by kernel_rfl⟩
instance : FOff Tryz.prog 207 0 0 := ⟨fun _ _ _ => by kernel_rfl⟩
instance : FOff Tryz.prog 207 1 1 := ⟨fun _ _ _ => by kernel_rfl⟩
instance : FOff Tryz.prog 234 0 0 := ⟨fun _ _ _ => by kernel_rfl⟩
instance : FOff Tryz.prog 234 1 4 := ⟨fun _ _ _ => by kernel_rfl⟩
instance : FOff Tryz.prog 234 2 7 := ⟨fun _ _ _ => by kernel_rfl⟩
instance : FOff Tryz.prog 234 3 8 := ⟨fun _ _ _ => by kernel_rfl⟩
instance : FOff Tryz.prog 234 4 9 := ⟨fun _ _ _ => by kernel_rfl⟩
instance : FOff Tryz.prog 234 5 10 := ⟨fun _ _ _ => by kernel_rfl⟩
instance : FOff Tryz.prog 234 6 11 := ⟨fun _ _ _ => by kernel_rfl⟩
instance : FOff Tryz.prog 265 0 0 := ⟨fun _ _ _ => by kernel_rfl⟩
instance : FOff Tryz.prog 265 1 1 := ⟨fun _ _ _ => by kernel_rfl⟩
instance : FOff Tryz.prog 265 2 2 := ⟨fun _ _ _ => by kernel_rfl⟩
instance : FOff Tryz.prog 265 3 3 := ⟨fun _ _ _ => by kernel_rfl⟩
instance : FOff Tryz.prog 265 4 4 := ⟨fun _ _ _ => by kernel_rfl⟩
instance : FOff Tryz.prog 265 5 5 := ⟨fun _ _ _ => by kernel_rfl⟩
instance : FVal Tryz.prog 48 0 0 := ⟨fun cs v w h => by
  have e : (Instr.field 48 (.agg cs) 0).run Tryz.prog w = (match cs[0]? with | some v => (pure v : Sem Value) | none => stuck "part: no such cell").run Tryz.prog w := by kernel_rfl
  rw [e, h]; rfl⟩
instance : ZeroT Tryz.prog 22 [.slice none 0 0] := ⟨fun _ => .inr ⟨.slice none 0 0, by kernel_rfl, rfl⟩⟩
instance : ZeroT Tryz.prog 24 [.int .i64 0, .int .i64 0, .int .i64 0] := ⟨fun _ => .inl (by kernel_rfl)⟩
instance : ZeroT Tryz.prog 26 [.slice none 0 0] := ⟨fun _ => .inr ⟨.slice none 0 0, by kernel_rfl, rfl⟩⟩
instance : ZeroT Tryz.prog 48 [.int .i64 0, .int .i64 0] := ⟨fun _ => .inl (by kernel_rfl)⟩
instance : ZeroT Tryz.prog 49 [.slice none 0 0] := ⟨fun _ => .inr ⟨.slice none 0 0, by kernel_rfl, rfl⟩⟩
instance : ZeroT Tryz.prog 69 [.int .i64 0, .int .i64 0, .slice none 0 0] := ⟨fun _ => .inl (by kernel_rfl)⟩
instance : ZeroT Tryz.prog 71 [.int .i64 0, .int .i64 0, .int .i64 0, .int .i64 0, .slice none 0 0] := ⟨fun _ => .inl (by kernel_rfl)⟩
instance : ZeroT Tryz.prog 79 [.int .i64 0, .int .i64 0, .int .i64 0, .int .i64 0, .slice none 0 0] := ⟨fun _ => .inl (by kernel_rfl)⟩
instance : ZeroT Tryz.prog 98 [.int .i64 0, .int .i64 0, .int .i64 0, .int .i64 0] := ⟨fun _ => .inl (by kernel_rfl)⟩
instance : ZeroT Tryz.prog 207 [.pointer none, .slice none 0 0] := ⟨fun _ => .inl (by kernel_rfl)⟩
instance : ZeroT Tryz.prog 231 [.int .i64 0, .int .i64 0, .int .i64 0] := ⟨fun _ => .inl (by kernel_rfl)⟩
instance : ZeroT Tryz.prog 271 [.int .i64 0, .int .i64 0, .int .i64 0, .int .i64 0, .int .i64 0, .int .i64 0, .int .i64 0, .int .i64 0] := ⟨fun _ => .inl (by kernel_rfl)⟩
instance : BldT Tryz.prog 24 [.int .i64 0, .int .i64 0, .int .i64 0] [(0, 1), (1, 1), (2, 1)] := ⟨fun _ => by kernel_rfl⟩
instance : BldT Tryz.prog 48 [.int .i64 0, .int .i64 0] [(0, 1), (1, 1)] := ⟨fun _ => by kernel_rfl⟩
instance : BldT Tryz.prog 69 [.int .i64 0, .int .i64 0, .slice none 0 0] [(0, 1), (1, 1), (2, 1)] := ⟨fun _ => by kernel_rfl⟩
instance : BldT Tryz.prog 71 [.int .i64 0, .int .i64 0, .int .i64 0, .int .i64 0, .slice none 0 0] [(0, 2), (2, 3)] := ⟨fun _ => by kernel_rfl⟩
instance : BldT Tryz.prog 77 [.int .i64 0, .int .i64 0, .slice none 0 0] [(0, 1), (1, 1), (2, 1)] := ⟨fun _ => by kernel_rfl⟩
instance : BldT Tryz.prog 79 [.int .i64 0, .int .i64 0, .int .i64 0, .int .i64 0, .slice none 0 0] [(0, 2), (2, 3)] := ⟨fun _ => by kernel_rfl⟩
instance : BldT Tryz.prog 98 [.int .i64 0, .int .i64 0, .int .i64 0, .int .i64 0] [(0, 1), (1, 1), (2, 1), (3, 1)] := ⟨fun _ => by kernel_rfl⟩
instance : BldT Tryz.prog 106 [.int .i64 0, .int .i64 0] [(0, 1), (1, 1)] := ⟨fun vs => (show Tryz.prog.built 106 vs = Instr.fill (fun i => some (i * 1, 1)) #[.int .i64 0, .int .i64 0] vs by kernel_rfl).trans (fill_arr 2 vs _ rfl)⟩
instance : BldT Tryz.prog 186 [.int .i64 0, .int .i64 0, .int .i64 0, .int .i64 0, .nilFunc, .int .i64 0, .slice none 0 0, .slice none 0 0, .int .i64 0, .int .i64 0, .int .i64 0] [(0, 4), (4, 1), (5, 1), (6, 1), (7, 1), (8, 1), (9, 1), (10, 1)] := ⟨fun _ => by kernel_rfl⟩
instance : BldT Tryz.prog 198 [.int .i64 0, .int .i64 0, .int .i64 0, .int .i64 0, .slice none 0 0, .int .i64 0, .int .i64 0, .int .i64 0, .int .i64 0] [(0, 4), (4, 1), (5, 1), (6, 1), (7, 1), (8, 1)] := ⟨fun _ => by kernel_rfl⟩
instance : BldT Tryz.prog 231 [.int .i64 0, .int .i64 0, .int .i64 0] [(0, 1), (1, 1), (2, 1)] := ⟨fun vs => (show Tryz.prog.built 231 vs = Instr.fill (fun i => some (i * 1, 1)) #[.int .i64 0, .int .i64 0, .int .i64 0] vs by kernel_rfl).trans (fill_arr 3 vs _ rfl)⟩
instance : BldT Tryz.prog 234 [.int .i64 0, .int .i64 0, .int .i64 0, .int .i64 0, .int .i64 0, .int .i64 0, .int .i64 0, .int .i64 0, .int .i64 0, .pointer none, .int .i64 0, .int .i64 0] [(0, 4), (4, 3), (7, 1), (8, 1), (9, 1), (10, 1), (11, 1)] := ⟨fun _ => by kernel_rfl⟩
instance : BldT Tryz.prog 265 [.nilFunc, .int .i64 0, .int .i64 0, .bool false, .int .i64 0, .int .i64 0] [(0, 1), (1, 1), (2, 1), (3, 1), (4, 1), (5, 1)] := ⟨fun _ => by kernel_rfl⟩
instance : SlT Tryz.prog 22 5 1 1 (.int .u8 0) := ⟨by kernel_rfl, by kernel_rfl⟩
instance : SlT Tryz.prog 26 3 1 8 (.int .i64 0) := ⟨by kernel_rfl, by kernel_rfl⟩
instance : SlT Tryz.prog 49 92 1 8 (.int .u64 0) := ⟨by kernel_rfl, by kernel_rfl⟩
instance : SlT Tryz.prog 103 106 2 16 (.agg #[.int .i64 0, .int .i64 0]) := ⟨by kernel_rfl, by kernel_rfl⟩
instance : SlT Tryz.prog 214 9 1 16 (.string ⟨#[]⟩) := ⟨by kernel_rfl, by kernel_rfl⟩
instance : SlT Tryz.prog 256 255 1 8 (.pointer none) := ⟨by kernel_rfl, by kernel_rfl⟩
instance : ArT Tryz.prog 231 3 3 := ⟨by kernel_rfl, fun _ => by kernel_rfl⟩
instance : ArT Tryz.prog 271 8 3 := ⟨by kernel_rfl, fun _ => by kernel_rfl⟩
instance : IntT Tryz.prog 3 .i64 := ⟨by kernel_rfl⟩
instance : IntT Tryz.prog 5 .u8 := ⟨by kernel_rfl⟩
instance : IntT Tryz.prog 91 .u64 := ⟨by kernel_rfl⟩
instance : IntT Tryz.prog 92 .u64 := ⟨by kernel_rfl⟩
instance : Ent1 Tryz.prog 21 := ⟨enters_of Tryz.func21 (by kernel_rfl) rfl⟩
instance : Ent1 Tryz.prog 33 := ⟨enters_of Tryz.func33 (by kernel_rfl) rfl⟩
instance : Ent1 Tryz.prog 35 := ⟨enters_of Tryz.func35 (by kernel_rfl) rfl⟩
instance : Ent1 Tryz.prog 37 := ⟨enters_of Tryz.func37 (by kernel_rfl) rfl⟩
instance : Ent1 Tryz.prog 38 := ⟨enters_of Tryz.func38 (by kernel_rfl) rfl⟩
instance : Ent1 Tryz.prog 40 := ⟨enters_of Tryz.func40 (by kernel_rfl) rfl⟩
instance : Ent1 Tryz.prog 41 := ⟨enters_of Tryz.func41 (by kernel_rfl) rfl⟩
instance : Ent1 Tryz.prog 44 := ⟨enters_of Tryz.func44 (by kernel_rfl) rfl⟩
instance : Ent1 Tryz.prog 45 := ⟨enters_of Tryz.func45 (by kernel_rfl) rfl⟩
instance : Ent1 Tryz.prog 46 := ⟨enters_of Tryz.func46 (by kernel_rfl) rfl⟩
instance : Ent1 Tryz.prog 48 := ⟨enters_of Tryz.func48 (by kernel_rfl) rfl⟩
instance : Ent1 Tryz.prog 49 := ⟨enters_of Tryz.func49 (by kernel_rfl) rfl⟩
instance : Ent1 Tryz.prog 51 := ⟨enters_of Tryz.func51 (by kernel_rfl) rfl⟩
instance : Ent1 Tryz.prog 52 := ⟨enters_of Tryz.func52 (by kernel_rfl) rfl⟩
instance : Ent1 Tryz.prog 53 := ⟨enters_of Tryz.func53 (by kernel_rfl) rfl⟩
instance : Ent1 Tryz.prog 54 := ⟨enters_of Tryz.func54 (by kernel_rfl) rfl⟩
instance : Ent1 Tryz.prog 62 := ⟨enters_of Tryz.func62 (by kernel_rfl) rfl⟩
instance : Ent1 Tryz.prog 65 := ⟨enters_of Tryz.func65 (by kernel_rfl) rfl⟩
instance : Ent1 Tryz.prog 71 := ⟨enters_of Tryz.func71 (by kernel_rfl) rfl⟩
instance : Ent1 Tryz.prog 72 := ⟨enters_of Tryz.func72 (by kernel_rfl) rfl⟩
instance : Ent1 Tryz.prog 73 := ⟨enters_of Tryz.func73 (by kernel_rfl) rfl⟩
instance : Ent1 Tryz.prog 74 := ⟨enters_of Tryz.func74 (by kernel_rfl) rfl⟩
instance : Ent1 Tryz.prog 75 := ⟨enters_of Tryz.func75 (by kernel_rfl) rfl⟩
instance : Ent1 Tryz.prog 76 := ⟨enters_of Tryz.func76 (by kernel_rfl) rfl⟩
instance : Ent1 Tryz.prog 77 := ⟨enters_of Tryz.func77 (by kernel_rfl) rfl⟩
instance : Ent1 Tryz.prog 78 := ⟨enters_of Tryz.func78 (by kernel_rfl) rfl⟩
instance : Ent1 Tryz.prog 79 := ⟨enters_of Tryz.func79 (by kernel_rfl) rfl⟩
instance : Ent1 Tryz.prog 83 := ⟨enters_of Tryz.func83 (by kernel_rfl) rfl⟩
instance : Ent1 Tryz.prog 84 := ⟨enters_of Tryz.func84 (by kernel_rfl) rfl⟩
instance : Ent1 Tryz.prog 85 := ⟨enters_of Tryz.func85 (by kernel_rfl) rfl⟩
instance : Ent1 Tryz.prog 87 := ⟨enters_of Tryz.func87 (by kernel_rfl) rfl⟩
instance : Ent1 Tryz.prog 88 := ⟨enters_of Tryz.func88 (by kernel_rfl) rfl⟩
instance : Ent1 Tryz.prog 89 := ⟨enters_of Tryz.func89 (by kernel_rfl) rfl⟩
instance : Ent1 Tryz.prog 90 := ⟨enters_of Tryz.func90 (by kernel_rfl) rfl⟩
instance : Ent1 Tryz.prog 91 := ⟨enters_of Tryz.func91 (by kernel_rfl) rfl⟩
instance : Ent1 Tryz.prog 92 := ⟨enters_of Tryz.func92 (by kernel_rfl) rfl⟩
instance : Ent1 Tryz.prog 94 := ⟨enters_of Tryz.func94 (by kernel_rfl) rfl⟩
instance : Ent1 Tryz.prog 95 := ⟨enters_of Tryz.func95 (by kernel_rfl) rfl⟩
instance : Ent1 Tryz.prog 96 := ⟨enters_of Tryz.func96 (by kernel_rfl) rfl⟩
instance : Ent1 Tryz.prog 97 := ⟨enters_of Tryz.func97 (by kernel_rfl) rfl⟩
instance : Ent1 Tryz.prog 98 := ⟨enters_of Tryz.func98 (by kernel_rfl) rfl⟩
instance : Ent1 Tryz.prog 99 := ⟨enters_of Tryz.func99 (by kernel_rfl) rfl⟩
instance : Ent1 Tryz.prog 100 := ⟨enters_of Tryz.func100 (by kernel_rfl) rfl⟩
instance : Ent1 Tryz.prog 111 := ⟨enters_of Tryz.func111 (by kernel_rfl) rfl⟩
instance : Ent1 Tryz.prog 112 := ⟨enters_of Tryz.func112 (by kernel_rfl) rfl⟩
instance : Ent1 Tryz.prog 114 := ⟨enters_of Tryz.func114 (by kernel_rfl) rfl⟩
instance : Ent1 Tryz.prog 115 := ⟨enters_of Tryz.func115 (by kernel_rfl) rfl⟩
instance : Ent1 Tryz.prog 116 := ⟨enters_of Tryz.func116 (by kernel_rfl) rfl⟩
instance : Ent1 Tryz.prog 123 := ⟨enters_of Tryz.func123 (by kernel_rfl) rfl⟩
instance : Ent1 Tryz.prog 124 := ⟨enters_of Tryz.func124 (by kernel_rfl) rfl⟩
instance : Ent1 Tryz.prog 125 := ⟨enters_of Tryz.func125 (by kernel_rfl) rfl⟩
instance : Ent1 Tryz.prog 126 := ⟨enters_of Tryz.func126 (by kernel_rfl) rfl⟩
instance : Ent1 Tryz.prog 127 := ⟨enters_of Tryz.func127 (by kernel_rfl) rfl⟩
instance : Ent1 Tryz.prog 128 := ⟨enters_of Tryz.func128 (by kernel_rfl) rfl⟩
instance : Ent1 Tryz.prog 129 := ⟨enters_of Tryz.func129 (by kernel_rfl) rfl⟩
instance : Ent1 Tryz.prog 130 := ⟨enters_of Tryz.func130 (by kernel_rfl) rfl⟩
instance : Ent1 Tryz.prog 131 := ⟨enters_of Tryz.func131 (by kernel_rfl) rfl⟩
instance : Ent1 Tryz.prog 132 := ⟨enters_of Tryz.func132 (by kernel_rfl) rfl⟩
instance : Ent1 Tryz.prog 134 := ⟨enters_of Tryz.func134 (by kernel_rfl) rfl⟩
instance : Ent1 Tryz.prog 135 := ⟨enters_of Tryz.func135 (by kernel_rfl) rfl⟩
instance : Ent1 Tryz.prog 136 := ⟨enters_of Tryz.func136 (by kernel_rfl) rfl⟩
instance : Ent1 Tryz.prog 137 := ⟨enters_of Tryz.func137 (by kernel_rfl) rfl⟩
instance : Ent1 Tryz.prog 138 := ⟨enters_of Tryz.func138 (by kernel_rfl) rfl⟩
instance : Ent1 Tryz.prog 139 := ⟨enters_of Tryz.func139 (by kernel_rfl) rfl⟩
instance : Ent1 Tryz.prog 140 := ⟨enters_of Tryz.func140 (by kernel_rfl) rfl⟩
instance : Ent1 Tryz.prog 141 := ⟨enters_of Tryz.func141 (by kernel_rfl) rfl⟩
instance : Ent1 Tryz.prog 142 := ⟨enters_of Tryz.func142 (by kernel_rfl) rfl⟩
instance : Ent1 Tryz.prog 143 := ⟨enters_of Tryz.func143 (by kernel_rfl) rfl⟩
instance : Ent1 Tryz.prog 144 := ⟨enters_of Tryz.func144 (by kernel_rfl) rfl⟩
instance : Ent1 Tryz.prog 145 := ⟨enters_of Tryz.func145 (by kernel_rfl) rfl⟩
instance : Ent1 Tryz.prog 146 := ⟨enters_of Tryz.func146 (by kernel_rfl) rfl⟩
instance : Ent1 Tryz.prog 147 := ⟨enters_of Tryz.func147 (by kernel_rfl) rfl⟩
instance : Ent1 Tryz.prog 148 := ⟨enters_of Tryz.func148 (by kernel_rfl) rfl⟩
instance : Ent1 Tryz.prog 149 := ⟨enters_of Tryz.func149 (by kernel_rfl) rfl⟩
instance : Ent1 Tryz.prog 150 := ⟨enters_of Tryz.func150 (by kernel_rfl) rfl⟩
instance : Ent1 Tryz.prog 151 := ⟨enters_of Tryz.func151 (by kernel_rfl) rfl⟩
instance : Ent1 Tryz.prog 152 := ⟨enters_of Tryz.func152 (by kernel_rfl) rfl⟩
instance : Ent1 Tryz.prog 153 := ⟨enters_of Tryz.func153 (by kernel_rfl) rfl⟩
instance : Ent1 Tryz.prog 154 := ⟨enters_of Tryz.func154 (by kernel_rfl) rfl⟩
instance : Ent1 Tryz.prog 161 := ⟨enters_of Tryz.func161 (by kernel_rfl) rfl⟩
instance : Ent1 Tryz.prog 162 := ⟨enters_of Tryz.func162 (by kernel_rfl) rfl⟩
instance : Ent1 Tryz.prog 164 := ⟨enters_of Tryz.func164 (by kernel_rfl) rfl⟩
instance : Ent1 Tryz.prog 165 := ⟨enters_of Tryz.func165 (by kernel_rfl) rfl⟩
instance : Ent1 Tryz.prog 166 := ⟨enters_of Tryz.func166 (by kernel_rfl) rfl⟩
instance : Ent1 Tryz.prog 167 := ⟨enters_of Tryz.func167 (by kernel_rfl) rfl⟩
instance : Ent1 Tryz.prog 168 := ⟨enters_of Tryz.func168 (by kernel_rfl) rfl⟩
instance : Ent1 Tryz.prog 169 := ⟨enters_of Tryz.func169 (by kernel_rfl) rfl⟩
instance : Ent1 Tryz.prog 170 := ⟨enters_of Tryz.func170 (by kernel_rfl) rfl⟩
instance : Ent1 Tryz.prog 171 := ⟨enters_of Tryz.func171 (by kernel_rfl) rfl⟩
instance : Ent1 Tryz.prog 172 := ⟨enters_of Tryz.func172 (by kernel_rfl) rfl⟩
instance : Ent1 Tryz.prog 173 := ⟨enters_of Tryz.func173 (by kernel_rfl) rfl⟩
instance : Ent1 Tryz.prog 174 := ⟨enters_of Tryz.func174 (by kernel_rfl) rfl⟩
instance : Ent1 Tryz.prog 176 := ⟨enters_of Tryz.func176 (by kernel_rfl) rfl⟩
instance : Ent1 Tryz.prog 177 := ⟨enters_of Tryz.func177 (by kernel_rfl) rfl⟩
instance : Ent1 Tryz.prog 178 := ⟨enters_of Tryz.func178 (by kernel_rfl) rfl⟩
instance : Ent1 Tryz.prog 179 := ⟨enters_of Tryz.func179 (by kernel_rfl) rfl⟩
instance : Ent1 Tryz.prog 181 := ⟨enters_of Tryz.func181 (by kernel_rfl) rfl⟩
instance : Ent1 Tryz.prog 182 := ⟨enters_of Tryz.func182 (by kernel_rfl) rfl⟩
instance : Ent1 Tryz.prog 183 := ⟨enters_of Tryz.func183 (by kernel_rfl) rfl⟩
instance : Ent1 Tryz.prog 184 := ⟨enters_of Tryz.func184 (by kernel_rfl) rfl⟩
instance : Ent1 Tryz.prog 185 := ⟨enters_of Tryz.func185 (by kernel_rfl) rfl⟩
instance : Ent1 Tryz.prog 186 := ⟨enters_of Tryz.func186 (by kernel_rfl) rfl⟩
instance : Ent1 Tryz.prog 190 := ⟨enters_of Tryz.func190 (by kernel_rfl) rfl⟩
instance : Ent1 Tryz.prog 191 := ⟨enters_of Tryz.func191 (by kernel_rfl) rfl⟩
instance : Ent1 Tryz.prog 192 := ⟨enters_of Tryz.func192 (by kernel_rfl) rfl⟩
instance : Ent1 Tryz.prog 193 := ⟨enters_of Tryz.func193 (by kernel_rfl) rfl⟩
instance : Ent1 Tryz.prog 194 := ⟨enters_of Tryz.func194 (by kernel_rfl) rfl⟩
instance : Ent1 Tryz.prog 195 := ⟨enters_of Tryz.func195 (by kernel_rfl) rfl⟩
instance : Ent1 Tryz.prog 196 := ⟨enters_of Tryz.func196 (by kernel_rfl) rfl⟩
instance : Ent1 Tryz.prog 197 := ⟨enters_of Tryz.func197 (by kernel_rfl) rfl⟩
instance : Ent1 Tryz.prog 200 := ⟨enters_of Tryz.func200 (by kernel_rfl) rfl⟩
instance : Ent1 Tryz.prog 202 := ⟨enters_of Tryz.func202 (by kernel_rfl) rfl⟩
instance : Ent1 Tryz.prog 203 := ⟨enters_of Tryz.func203 (by kernel_rfl) rfl⟩
instance : Ent1 Tryz.prog 204 := ⟨enters_of Tryz.func204 (by kernel_rfl) rfl⟩
instance : Ent1 Tryz.prog 206 := ⟨enters_of Tryz.func206 (by kernel_rfl) rfl⟩
instance : Ent1 Tryz.prog 207 := ⟨enters_of Tryz.func207 (by kernel_rfl) rfl⟩
instance : Ent1 Tryz.prog 208 := ⟨enters_of Tryz.func208 (by kernel_rfl) rfl⟩
instance : Ent1 Tryz.prog 209 := ⟨enters_of Tryz.func209 (by kernel_rfl) rfl⟩
instance : Ent1 Tryz.prog 210 := ⟨enters_of Tryz.func210 (by kernel_rfl) rfl⟩
instance : Ent1 Tryz.prog 211 := ⟨enters_of Tryz.func211 (by kernel_rfl) rfl⟩
instance : Ent1 Tryz.prog 212 := ⟨enters_of Tryz.func212 (by kernel_rfl) rfl⟩
end Go.Proofs.YtggamdlpiejbiaaGreat
namespace Go.Proofs
open Go.Shelf
def Tryz.lays156_ren : Go.Shelf.Ren := ⟨fun | 156 => 142 | 165 => 180 | 166 => 138 | 169 => 141 | 240 => 179 | 241 => 199 | 276 => 198 | 277 => 205 | n => n, fun | 31 => 214 | 9 => 9 | 3 => 3 | 4 => 4 | 0 => 0 | 20 => 20 | 72 => 207 | 76 => 210 | 70 => 205 | 37 => 22 | 75 => 209 | 127 => 245 | 164 => 260 | 5 => 5 | 80 => 213 | n => n, fun | n => n⟩
theorem Tryz.lays156 : Go.Proofs.Lays.n156 Tryz.prog Tryz.lays156_ren := {
  mixed := by kernel_rfl
  f156 := Tryz.func142.trans (congrArg some (by kernel_rfl))
  f165 := Tryz.func180.trans (congrArg some (by kernel_rfl))
  f166 := Tryz.func138.trans (congrArg some (by kernel_rfl))
  f169 := Tryz.func141.trans (congrArg some (by kernel_rfl))
  f240 := Tryz.func179.trans (congrArg some (by kernel_rfl))
  f241 := Tryz.func199.trans (congrArg some (by kernel_rfl))
  f276 := Tryz.func198.trans (congrArg some (by kernel_rfl))
  f277 := Tryz.func205.trans (congrArg some (by kernel_rfl))
  t0 := Tryz.underlying0
  a0 := Tryz.isAgg0
  z0 := Tryz.sizeOf0
  v0 := Tryz.zeroValue0
  t3 := Tryz.underlying3
  a3 := Tryz.isAgg3
  z3 := Tryz.sizeOf3
  v3 := Tryz.zeroValue3
  t4 := Tryz.underlying4
  a4 := Tryz.isAgg4
  z4 := Tryz.sizeOf4
  v4 := Tryz.zeroValue4
  t9 := Tryz.underlying9
  a9 := Tryz.isAgg9
  z9 := Tryz.sizeOf9
  v9 := Tryz.zeroValue9
  t20 := Tryz.underlying20
  a20 := Tryz.isAgg20
  z20 := Tryz.sizeOf20
  v20 := Tryz.zeroValue20
  t31 := Tryz.underlying214
  a31 := Tryz.isAgg214
  z31 := Tryz.sizeOf214
  v31 := Tryz.zeroValue214
  t37 := Tryz.underlying22
  a37 := Tryz.isAgg22
  z37 := Tryz.sizeOf22
  v37 := Tryz.zeroValue22
  t70 := Tryz.underlying205
  a70 := Tryz.isAgg205
  z70 := Tryz.sizeOf205
  v70 := Tryz.zeroValue205
  t72 := Tryz.underlying207
  a72 := Tryz.isAgg207
  z72 := Tryz.sizeOf207
  v72 := Tryz.zeroValue207
  t75 := Tryz.underlying209
  a75 := Tryz.isAgg209
  z75 := Tryz.sizeOf209
  v75 := Tryz.zeroValue209
  t76 := Tryz.underlying210
  a76 := Tryz.isAgg210
  z76 := Tryz.sizeOf210
  v76 := Tryz.zeroValue210
  t127 := Tryz.underlying245
  a127 := Tryz.isAgg245
  z127 := Tryz.sizeOf245
  v127 := Tryz.zeroValue245
  t164 := Tryz.underlying260
  a164 := Tryz.isAgg260
  z164 := Tryz.sizeOf260
  v164 := Tryz.zeroValue260 }
theorem Tryz.Builder_Extra_156 : Builder.Extra Tryz.prog Tryz.lays156_ren := {
  sizeBuilder := by kernel_rfl
  liesBuilder := by kernel_rfl
  t5 := Tryz.underlying5
  a5 := Tryz.isAgg5
  z5 := Tryz.sizeOf5
  v5 := Tryz.zeroValue5
  infoByte := by kernel_rfl
  cellsByte := by kernel_rfl
  sizeByte := by kernel_rfl
  neB5 := by decide }
open Go.RowKit in
open Go.RowKit in
/-- strings.Join: "Join concatenates the elements of its first argument to create a single string. The separator string sep is placed between elements in the resulting string.": HOWEVER MANY ELEMENTS. Below the heap's end the world is as it was. (LAID: no walk: one application.) -/
theorem Tryz.strings_Join (bk o c : Nat) (xs : List ByteArray) (sep : ByteArray) (w : World) (hcells : ∀ (j : Nat) x, xs[j]? = some x → w.cell? ⟨bk, o + j, none⟩ = some (.string x)) (hbk : bk < w.heap.size) (hN : xs.length ≤ 140737488355328) (hcap : xs.length ≤ c) (hlen : (Lib.join (xs.map (·.data.toList)) sep.data.toList).length ≤ 140737488355328) :
    Calls Tryz.prog 142 #[.slice (some ⟨bk, o, none⟩) xs.length c, .string sep] w fun e w' => e = .returned (.string ⟨(Lib.join (xs.map (·.data.toList)) sep.data.toList).toArray⟩) ∧ Below w.heap.size w w' := Any.strings_Join Tryz.lays156 Tryz.Builder_Extra_156 bk o c xs sep w hcells hbk hN hcap hlen
def Tryz.lays137_ren : Go.Shelf.Ren := ⟨fun | 137 => 161 | 217 => 189 | 266 => 201 | n => n, fun | 9 => 9 | 5 => 5 | 3 => 3 | n => n, fun | n => n⟩
theorem Tryz.lays137 : Go.Proofs.Lays.n137 Tryz.prog Tryz.lays137_ren := {
  mixed := by kernel_rfl
  f137 := Tryz.func161.trans (congrArg some (by kernel_rfl))
  f217 := Tryz.func189.trans (congrArg some (by kernel_rfl))
  f266 := Tryz.func201.trans (congrArg some (by kernel_rfl))
  t3 := Tryz.underlying3
  a3 := Tryz.isAgg3
  z3 := Tryz.sizeOf3
  v3 := Tryz.zeroValue3
  t5 := Tryz.underlying5
  a5 := Tryz.isAgg5
  z5 := Tryz.sizeOf5
  v5 := Tryz.zeroValue5
  t9 := Tryz.underlying9
  a9 := Tryz.isAgg9
  z9 := Tryz.sizeOf9
  v9 := Tryz.zeroValue9 }
open Go.RowKit in
/-- strings.IndexByte: "IndexByte returns the index of the first instance of c in s, or -1 if c is not present in s.": IT RETURNS 'Lib.indexByte s c'; the world is as it was. (LAID: no walk: one application.) -/
theorem Tryz.strings_IndexByte (s : ByteArray) (c : Int) (w : World) :
    Calls Tryz.prog 161 #[.string s, .int .u8 c] w fun e w' => e = .returned (.int .i64 (Lib.indexByte s.data.toList c.toNat.toUInt8)) ∧ w' = w := Any.strings_IndexByte Tryz.lays137 s c w
end Go.Proofs
namespace Go.Proofs.YtggamdlpiejbiaaGreat
open Go.RowKit Go.Shelf


def XW (c : Int) : Bool := decide (c = 9 ∨ c = 10 ∨ c = 11 ∨ c = 12 ∨ c = 13 ∨ c = 32)
theorem blank_ix (c : Int) (h0 : 0 ≤ c) (h1 : c ≤ 255) : decide ((0 : Int) ≤ Lib.indexByte [9, 10, 11, 12, 13, 32] c.toNat.toUInt8) = XW c := by
  obtain ⟨k, rfl⟩ := Int.eq_ofNat_of_zero_le h0
  have hk : k < 256 := by omega
  clear h0 h1
  revert k
  decide +kernel

theorem Yb (c : Int) (h0 : 0 ≤ c) (h1 : c ≤ 255) : Fn Tryz.prog 111 #[.int .u8 c] [] (fun v l => v = .bool (XW c) ∧ l = []) := by
 refine Qk (vs := [.int .u8 c]) Tryz.func111 rfl Tryz.ntmps111 rfl (Qb (Qa (Qe rfl rfl (WpL.nil (Qb (Qa (Qd rfl rfl (Qg rfl rfl (by repeat' constructor) (Fn.of_same (Tryz.strings_IndexByte _ _)) ?_))))))))
 rintro _ _ ⟨rfl, rfl⟩
 simp only [Qr]
 refine Zo rfl rfl rfl (Qe rfl rfl (WpL.nil (Qh ?_)))
 apply RetQ.mk
 ·exact (Res.one rfl rfl)
 ·exact ⟨congrArg Value.bool (blank_ix c h0 h1), rfl⟩
 ·exact Ent.refl _

theorem Y0 (K W H M : Int) : Fn Tryz.prog 76 #[.agg #[.int .i64 K, .int .i64 W, .int .i64 H, .int .i64 M]] [] (fun v l => v = .bool (decide (4 ≤ K ∧ K ≤ 6)) ∧ l = []) := by
 refine Qk (vs := [.agg #[.int .i64 K, .int .i64 W, .int .i64 H, .int .i64 M]]) Tryz.func76 rfl Tryz.ntmps76 rfl (Qb (Qa (QP rfl rfl rfl ?_)))
 intro g1
 refine Qe rfl rfl (WpL.nil (Qb (Qa (Qj (o2 := 0) rfl rfl rfl (Qo rfl rfl (by rfl) ?_)))))
 refine Zo rfl rfl rfl (Qd rfl rfl (QH rfl rfl rfl (fun hg1 => ?_) (fun hg1 => ?_)))
 ·have hg1 := of_decide_eq_true hg1
  refine Qj (o2 := 0) rfl rfl rfl (Qf rfl rfl (Qo rfl rfl (by rfl) ?_))
  refine Qf rfl rfl (s_le rfl rfl rfl (Qx rfl rfl rfl (Qe rfl rfl (WpL.nil (Qh ?_)))))
  apply RetQ.mk
  ·exact (Res.one rfl rfl)
  ·exact ⟨congrArg Value.bool (by exact dd (by omega)), rfl⟩
  ·exact Ent.nil _
 ·have hg1 := of_decide_eq_false hg1
  refine Qc rfl rfl rfl (by decide) (Qc rfl rfl rfl (by decide) (Qq rfl rfl rfl (Qe rfl rfl (WpL.nil (Qh ?_)))))
  apply RetQ.mk
  ·exact (Res.one rfl rfl)
  ·exact ⟨congrArg Value.bool (by exact df (by omega)), rfl⟩
  ·exact Ent.nil _

theorem bits_spec (K W H M : Int) : Fn Tryz.prog 136 #[.agg #[.int .i64 K, .int .i64 W, .int .i64 H, .int .i64 M]] [] (fun v l => v = .bool (decide (K = 1 ∨ K = 4)) ∧ l = []) := by
 refine Qk (vs := [.agg #[.int .i64 K, .int .i64 W, .int .i64 H, .int .i64 M]]) Tryz.func136 rfl Tryz.ntmps136 rfl (Qb (Qa (QP rfl rfl rfl ?_)))
 intro g1
 refine Qe rfl rfl (WpL.nil (Qb (Qa (Qj (o2 := 0) rfl rfl rfl (Qo rfl rfl (by rfl) ?_)))))
 refine QO rfl rfl rfl (Qd rfl rfl (QH rfl rfl rfl (fun hg1 => ?_) (fun hg1 => ?_)))
 ·have hg1 := of_decide_eq_false hg1
  refine Qj (o2 := 0) rfl rfl rfl (Qf rfl rfl (Qo rfl rfl (by rfl) ?_))
  refine Qf rfl rfl (QO rfl rfl rfl (Qq rfl rfl rfl (Qe rfl rfl (WpL.nil (Qh ?_)))))
  apply RetQ.mk
  ·exact (Res.one rfl rfl)
  ·exact ⟨congrArg Value.bool (by exact dd (by omega)), rfl⟩
  ·exact Ent.nil _
 ·have hg1 := of_decide_eq_true hg1
  refine Qc rfl rfl rfl (by decide) (Qc rfl rfl rfl (by decide) (Qx rfl rfl rfl (Qe rfl rfl (WpL.nil (Qh ?_)))))
  apply RetQ.mk
  ·exact (Res.one rfl rfl)
  ·exact ⟨congrArg Value.bool (by exact dt (by omega)), rfl⟩
  ·exact Ent.nil _

theorem in_spec (x y : Int) : Fn Tryz.prog 176 #[.int .i64 x, .int .i64 y] [] (fun v l => v = .bool (decide (1 ≤ x ∧ x ≤ y)) ∧ l = []) := by
 refine Qk (vs := [.int .i64 x, .int .i64 y]) Tryz.func176 rfl Tryz.ntmps176 rfl (Qb (Qa (Qe rfl rfl (WpL.nil (Qb (Qa (Qd rfl rfl (Zo rfl rfl rfl (Qd rfl rfl (QH rfl rfl rfl (fun hg1 => ?_) (fun hg1 => ?_)))))))))))
 ·have hg1 := of_decide_eq_true hg1
  refine Qd rfl rfl (Qf rfl rfl (Qd rfl rfl (Qf rfl rfl (s_le rfl rfl rfl (Qx rfl rfl rfl (Qe rfl rfl (WpL.nil (Qh ?_))))))))
  apply RetQ.mk
  ·exact (Res.one rfl rfl)
  ·exact ⟨congrArg Value.bool (by exact dd (by omega)), rfl⟩
  ·exact Ent.refl _
 ·have hg1 := of_decide_eq_false hg1
  refine Qc rfl rfl rfl (by decide) (Qc rfl rfl rfl (by decide) (Qq rfl rfl rfl (Qe rfl rfl (WpL.nil (Qh ?_)))))
  apply RetQ.mk
  ·exact (Res.one rfl rfl)
  ·exact ⟨congrArg Value.bool (by exact df (by omega)), rfl⟩
  ·exact Ent.refl _

def X6 (K W H M : Int) : Prop := (1 ≤ K ∧ K ≤ 6) ∧ (1 ≤ W ∧ W ≤ 4096) ∧ (1 ≤ H ∧ H ≤ 65536) ∧ (1 ≤ M ∧ M ≤ 65535) ∧ ((K = 1 ∨ K = 4) → M = 1)
instance (K W H M : Int) : Decidable (X6 K W H M) := by unfold X6; infer_instance

theorem May_spec (K W H M : Int) : Fn Tryz.prog 134 #[.agg #[.int .i64 K, .int .i64 W, .int .i64 H, .int .i64 M]] [] (fun v l => v = .bool (decide (X6 K W H M)) ∧ l = []) := by
 refine Qk (vs := [.agg #[.int .i64 K, .int .i64 W, .int .i64 H, .int .i64 M]]) Tryz.func134 rfl Tryz.ntmps134 rfl (Qb (Qa (QP rfl rfl rfl ?_)))
 intro g1
 refine Qe rfl rfl (WpL.nil (Qb (Qa (Qe rfl rfl (WpL.nil (Qb (Qa (Qd rfl rfl (Qj (o2 := 0) rfl rfl rfl (Qo rfl rfl (by rfl) ?_))))))))))
 refine XU (u := []) (c := []) rfl rfl rfl rfl (by repeat' constructor) (in_spec _ _) ?_
 rintro _ _ ⟨rfl, rfl⟩
 simp only [Qr]
 refine Qd rfl rfl (QH rfl rfl rfl (fun hg1 => ?_) (fun hg1 => ?_))
 ·have hg1 := of_decide_eq_true hg1
  refine Qd rfl rfl (Qf rfl rfl (Qj (o2 := 1) rfl rfl rfl (Qf rfl rfl (Qo rfl rfl (by rfl) ?_))))
  refine Qf rfl rfl (XU (u := []) (c := []) rfl rfl rfl rfl (by repeat' constructor) (in_spec _ _) ?_)
  rintro _ _ ⟨rfl, rfl⟩
  simp only [Qr]
  refine Qx rfl rfl rfl (Qd rfl rfl (QH rfl rfl rfl (fun hg2 => ?_) (fun hg2 => ?_)))
  ·have hg2 := of_decide_eq_true hg2
   refine Qd rfl rfl (Qf rfl rfl (Qj (o2 := 2) rfl rfl rfl (Qf rfl rfl (Qo rfl rfl (by rfl) ?_))))
   refine Qf rfl rfl (XU (u := []) (c := []) rfl rfl rfl rfl (by repeat' constructor) (in_spec _ _) ?_)
   rintro _ _ ⟨rfl, rfl⟩
   simp only [Qr]
   refine Qx rfl rfl rfl (Qd rfl rfl (QH rfl rfl rfl (fun hg3 => ?_) (fun hg3 => ?_)))
   ·have hg3 := of_decide_eq_true hg3
    refine Qd rfl rfl (Qf rfl rfl (Qj (o2 := 3) rfl rfl rfl (Qf rfl rfl (Qo rfl rfl (by rfl) ?_))))
    refine Qf rfl rfl (XU (u := []) (c := []) rfl rfl rfl rfl (by repeat' constructor) (in_spec _ _) ?_)
    rintro _ _ ⟨rfl, rfl⟩
    simp only [Qr]
    refine Qx rfl rfl rfl (Qd rfl rfl (QH rfl rfl rfl (fun hg4 => ?_) (fun hg4 => ?_)))
    ·have hg4 := of_decide_eq_true hg4
     refine Qz (vs := [_, _, _, _]) rfl rfl rfl (by rfl) ?_
     refine Qf rfl rfl (Qg rfl rfl (by repeat' constructor) (bits_spec _ _ _ _) ?_)
     rintro _ _ ⟨rfl, rfl⟩
     simp only [Qr]
     refine Qf rfl rfl (XY rfl rfl (Qf rfl rfl (Qd rfl rfl (QH rfl rfl rfl (fun hg5 => ?_) (fun hg5 => ?_)))))
     ·have hg5 := of_decide_eq_false hg5
      refine Qj (o2 := 3) rfl rfl rfl (Qf rfl rfl (Qo rfl rfl (by rfl) ?_))
      refine Qf rfl rfl (QO rfl rfl rfl (Qf rfl rfl (Qq rfl rfl rfl (Qx rfl rfl rfl (Qe rfl rfl (WpL.nil (Qh ?_)))))))
      apply RetQ.mk
      ·exact (Res.one rfl rfl)
      ·exact ⟨congrArg Value.bool (by exact dd (by unfold X6; omega)), rfl⟩
      ·exact Ent.nil _
     ·have hg5 := of_decide_eq_true hg5
      refine Qc rfl rfl rfl (by decide) (Qc rfl rfl rfl (by decide) (Qf rfl rfl (Qx rfl rfl rfl (Qx rfl rfl rfl (Qe rfl rfl (WpL.nil (Qh ?_)))))))
      apply RetQ.mk
      ·exact (Res.one rfl rfl)
      ·exact ⟨congrArg Value.bool (by exact dt (by unfold X6; omega)), rfl⟩
      ·exact Ent.nil _
    ·have hg4 := of_decide_eq_false hg4
     refine Qc rfl rfl rfl (by decide) (Qc rfl rfl rfl (by decide) (Qc rfl rfl rfl (by decide) (Q8 rfl rfl rfl (Q8 rfl rfl rfl (Q8 rfl rfl rfl (Qc rfl rfl rfl (by decide) (Qq rfl rfl rfl (Qe rfl rfl (WpL.nil (Qh ?_))))))))))
     apply RetQ.mk
     ·exact (Res.one rfl rfl)
     ·exact ⟨congrArg Value.bool (by exact df (by unfold X6; omega)), rfl⟩
     ·exact Ent.nil _
   ·have hg3 := of_decide_eq_false hg3
    refine Qc rfl rfl rfl (by decide) (Qc rfl rfl rfl (by decide) (Qc rfl rfl rfl (by decide) (Qq rfl rfl rfl (Qd rfl rfl (Qc rfl rfl rfl (by decide) (Qc rfl rfl rfl (by decide) (Qc rfl rfl rfl (by decide) (Qc rfl rfl rfl (by decide) (Q8 rfl rfl rfl (Q8 rfl rfl rfl (Q8 rfl rfl rfl (Qc rfl rfl rfl (by decide) ?_))))))))))))
    refine Qq rfl rfl rfl (Qe rfl rfl (WpL.nil (Qh ?_)))
    apply RetQ.mk
    ·exact (Res.one rfl rfl)
    ·exact ⟨congrArg Value.bool (by exact df (by unfold X6; omega)), rfl⟩
    ·exact Ent.nil _
  ·have hg2 := of_decide_eq_false hg2
   refine Qc rfl rfl rfl (by decide) (Qc rfl rfl rfl (by decide) (Qc rfl rfl rfl (by decide) (Qq rfl rfl rfl (Qd rfl rfl (Qc rfl rfl rfl (by decide) (Qc rfl rfl rfl (by decide) (Qc rfl rfl rfl (by decide) (Qc rfl rfl rfl (by decide) (Qq rfl rfl rfl (Qd rfl rfl (Qc rfl rfl rfl (by decide) (Qc rfl rfl rfl (by decide) ?_))))))))))))
   refine Qc rfl rfl rfl (by decide) (Qc rfl rfl rfl (by decide) (Q8 rfl rfl rfl (Q8 rfl rfl rfl (Q8 rfl rfl rfl (Qc rfl rfl rfl (by decide) (Qq rfl rfl rfl (Qe rfl rfl (WpL.nil (Qh ?_)))))))))
   apply RetQ.mk
   ·exact (Res.one rfl rfl)
   ·exact ⟨congrArg Value.bool (by exact df (by unfold X6; omega)), rfl⟩
   ·exact Ent.nil _
 ·have hg1 := of_decide_eq_false hg1
  refine Qc rfl rfl rfl (by decide) (Qc rfl rfl rfl (by decide) (Qc rfl rfl rfl (by decide) (Qq rfl rfl rfl (Qd rfl rfl (Qc rfl rfl rfl (by decide) (Qc rfl rfl rfl (by decide) (Qc rfl rfl rfl (by decide) (Qc rfl rfl rfl (by decide) (Qq rfl rfl rfl (Qd rfl rfl (Qc rfl rfl rfl (by decide) (Qc rfl rfl rfl (by decide) ?_))))))))))))
  refine Qc rfl rfl rfl (by decide) (Qc rfl rfl rfl (by decide) (Qq rfl rfl rfl (Qd rfl rfl (Qc rfl rfl rfl (by decide) (Qc rfl rfl rfl (by decide) (Qc rfl rfl rfl (by decide) (Qc rfl rfl rfl (by decide) (Q8 rfl rfl rfl (Q8 rfl rfl rfl (Q8 rfl rfl rfl (Qc rfl rfl rfl (by decide) (Qq rfl rfl rfl ?_))))))))))))
  refine Qe rfl rfl (WpL.nil (Qh ?_))
  apply RetQ.mk
  ·exact (Res.one rfl rfl)
  ·exact ⟨congrArg Value.bool (by exact df (by unfold X6; omega)), rfl⟩
  ·exact Ent.nil _

theorem Xo (K W H M : Int) (hK : 0 ≤ K) : Fn Tryz.prog 79 #[.agg #[.int .i64 K, .int .i64 W, .int .i64 H, .int .i64 M]] [] (fun v l => v = .agg #[.int .i64 (if K % 3 = 0 then 3 else 1), .int .i64 M] ∧ l = []) := by
 refine Qk (vs := [.agg #[.int .i64 K, .int .i64 W, .int .i64 H, .int .i64 M]]) Tryz.func79 rfl Tryz.ntmps79 rfl (Qb (Qa (QP rfl rfl rfl ?_)))
 intro g1
 refine XK rfl ?_
 intro g2
 refine WpL.nil (Qb (Qb (Qa (Qj (o2 := 0) rfl rfl rfl (Qo rfl rfl (by rfl) ?_)))))
 refine Y6 rfl rfl rfl (by omega) (by omega) ?_
 refine QO rfl rfl rfl (WpL.nil (Qm rfl (fun h0 => ?_) (fun h0 => ?_)))
 ·refine Qb (Qa (Qj (o2 := 3) rfl rfl rfl (Qo rfl rfl (by rfl) ?_)))
  refine XN rfl rfl ?_
  refine QY rfl rfl rfl (by rfl) rfl ?_
  refine WpL.nil (Qh ?_)
  apply RetQ.mk
  ·exact (XF rfl rfl (by rfl))
  ·exact ⟨by rw [if_pos (by assumption)], rfl⟩
  ·exact Ent.nil _
 ·refine Wp.skip (Qb (Qa (Qj (o2 := 3) rfl rfl rfl (Qo rfl rfl (by rfl) ?_))))
  refine XN rfl rfl ?_
  refine QY rfl rfl rfl (by rfl) rfl ?_
  refine WpL.nil (Qh ?_)
  apply RetQ.mk
  ·exact (XF rfl rfl (by rfl))
  ·exact ⟨by rw [if_neg (by assumption)], rfl⟩
  ·exact Ent.nil _

end Go.Proofs.YtggamdlpiejbiaaGreat
