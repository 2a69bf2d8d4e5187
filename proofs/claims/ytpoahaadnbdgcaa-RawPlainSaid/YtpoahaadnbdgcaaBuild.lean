/- What a walk of a text's builder meets: bytes of a text appended, a pointer held against itself, unsafe's pointers and texts. -/
import Derived.Test.YtpoahaadnbdgcaaMem
import Derived.Lib.AppendStr
import Derived.Lib.UnsafeStr
import Derived.Lib.Builder
import Derived.Laws.Externs
namespace Go.Proofs.Ytpoahaadnbdgcaa
open Go.RowKit Go.Shelf
section
variable {P : Program} {n : Cx} {D : List Deferred} {ops : Array Oper} {rest : List Oper} {Q : Post} {fr : Fr} {l : List HP} {ty : Nat} {pos : String} {aft : Array Edge}

theorem strCells_u8s (s : ByteArray) : Lib.strCells s = u8s (bsOf s) := by simp [Lib.strCells, u8s, bsOf]
theorem append_str_at {w : World} {t u ty e : Nat} [ht : SlT P t e 1 1 (.int .u8 0)] (hu : P.underlying u = some .string) {v : Value} {m : Nat} {xs : List Value} (hown : w.ownsRow 0 e 1 v m xs) (s : ByteArray) (hm : m + s.size ≤ 140737488355328) :
    ∃ v' w', (Builtin.append_ #[t, u] ty #[v, .string s]).run P w = .ok v' w' ∧ w'.ownsRow 0 e 1 v' (m + s.size) (xs ++ u8s (bsOf s)) ∧ w.grownBy w' v.ownBlock ∧ (v'.ownBlock = v.ownBlock ∨ v'.ownBlock = some w.heap.size) := by
  obtain ⟨i, hi, hz0, hz1, hz2⟩ := info_parts ht.hi
  obtain ⟨v', w', hr, hown', hg, hnil⟩ := Lib.run_append_own_string (P := P) w 0 t u ty e i ht.hu hu hi hz0 hz1 hz2 v m xs hown s (by unfold maxLen; omega) hm (Nat.zero_le _)
  rw [strCells_u8s] at hown'
  refine ⟨v', w', hr, hown', hg, ?_⟩
  rcases hown.2 with ⟨rfl, rfl⟩ | ⟨g, cap, cur, rfl, _, hgc, hnc, _, hcs, htake⟩
  · by_cases h0 : s.size = 0
    · have := hnil.2 ⟨rfl, h0⟩
      subst this
      exact .inl rfl
    · have hr2 := run_append_nil_string (P := P) w t u ty e i (.int .u8 0) ht.hu hu hi hz0 s (by omega) (by omega) (by rw [hz2]; omega)
      rw [hr] at hr2
      injection hr2 with e1 _
      subst e1
      exact .inr rfl
  · by_cases hroom : m + s.size ≤ cap
    · have hr2 := Lib.run_append_room_string (P := P) w t u ty e i ht.hu hu hi hz1 g m cap cur hgc s hroom (by omega)
      rw [hr] at hr2
      injection hr2 with e1 _
      subst e1
      exact .inl rfl
    · have hxl : xs.length = m := by simpa using hown.1
      have hr2 := Lib.run_append_grow_string (P := P) w t u ty e i (.int .u8 0) ht.hu hu hi hz0 ⟨g, 0, none⟩ m cap xs (by rw [hz1]; simpa using hxl) (hown.cells (g := g) rfl) s (by omega) (by omega) (by rw [hz2]; exact growslice_fits (by omega) (by omega))
      rw [hr] at hr2
      injection hr2 with e1 _
      subst e1
      exact .inr rfl
/-- append(b, s...), s a text. -/
theorem s_apps {d t u e : Nat} {x y : Operand} {a : Option Addr} {c m : Nat} {xs : List Value} {s : ByteArray} {F : List HP} (hd : Nat.blt d n = true) [ht : SlT P t e 1 1 (.int .u8 0)] (hu : P.underlying u = some .string) (hx : ev fr x = some (.slice a m c)) (hy : ev fr y = some (.string s))
    (htk : Take l [own e 1 a c m xs] F) (hm : m + s.size ≤ 140737488355328)
    (k : ∀ a' c', WpL P n D ops rest Q ((d, .slice a' (m + s.size) c') :: fr) (own e 1 a' c' (m + s.size) (xs ++ u8s (bsOf s)) :: F)) : WpL P n D ops (⟨some d, .call ⟨.builtin .append, #[x, y], #[t, u]⟩, ty, pos, aft, none⟩ :: rest) Q fr l := by
  refine WpL.valx (σ := Option Addr × Nat) hd (fun p => .slice p.1 (m + s.size) p.2) (fun p => own e 1 p.1 p.2 (m + s.size) (xs ++ u8s (bsOf s)) :: F) (fun A w U hh hs' => ?_) (fun p => k p.1 p.2)
  obtain ⟨V, ⟨S, ⟨hS, hown⟩, hSV, _⟩, hfr⟩ := Out.frame (pre := [own e 1 a c m xs]) (F := F) (htk.ent w U hs')
  obtain ⟨v', w', hr, hown', hg, hat⟩ := append_str_at (P := P) (t := t) (ty := ty) hu hown s hm
  obtain ⟨a', c', rfl⟩ := slice_of_own hown'
  have hob : ∀ b, some b = (Value.slice a m c).ownBlock → V b := by
    intro b e
    refine hSV b ((hS b).2 ?_)
    cases a with
    | none => simp [Value.ownBlock] at e
    | some ad0 => simp [Value.ownBlock] at e; exact ⟨ad0, rfl, e⟩
  refine ⟨(a', c'), w', by simp [execOp, resolve, invoke, builtin, hh.ev hx, hh.ev hy, hr], hfr [own e 1 a' c' (m + s.size) (xs ++ u8s (bsOf s))] w' ⟨⟨fun b => ∃ ad, a' = some ad ∧ b = ad.block, ⟨fun _ => Iff.rfl, hown'⟩, ?_, trivial⟩, hg.os, hg.tape, hg.output, hg.size, ?_⟩⟩
  · rintro b ⟨ad', rfl, rfl⟩
    rcases hat with hat | hat
    · exact .inl (hob _ hat)
    · simp only [Value.ownBlock, Option.some.injEq] at hat
      exact .inr (Nat.le_of_eq hat.symm)
  · exact fun b hb' hnV => hg.block b hb' fun e => hnV (hob b e)

/-- A builder's types. -/
class BldF (P : Program) (T Tp Up : outParam Nat) (cc : outParam Nat) : Prop where
  tp : P.underlying Tp = some (.pointer T)
  up : P.underlying Up = some .unsafePointer
  sz : (P.info? T).map (·.size) = some 2
  lies : liesAt P P.depth T (2 / P.cellsOf T) 0 T 1 = true
theorem s_pself {d T T2 e : Nat} {x y : Operand} {p : Addr} (hd : Nat.blt d n = true) (ht : P.underlying T = some (.pointer e)) (hi : (P.info? e).isSome = true) (hx : ev fr x = some (.pointer (some p))) (hy : ev fr y = some (.pointer (some p)))
    (k : WpL P n D ops rest Q ((d, .bool false) :: fr) l) : WpL P n D ops (⟨some d, .binOp .neq T x y T2, ty, pos, aft, none⟩ :: rest) Q fr l :=
  WpL.val hd (fun a w _ hh _ => by
    obtain ⟨j, hj⟩ := Option.isSome_iff_exists.1 hi
    have := Lib.run_neq_ptr_same (P := P) w p ht hj
    simp [execOp, hh.ev hx, hh.ev hy, eqGuard, this]) k
theorem shape_of_blk {w : World} {g T : Nat} {cs : List Value} (h : w.heap[g]? = some (.cells cs.toArray T (0, 0))) : w.shape? g = some (T, cs.length) := by
  simp [World.shape?, h]
theorem s_tou {d Tp Up T g c2 T2 : Nat} {x : Operand} {v1 v2 : Value} (hd : Nat.blt d n = true) [hB : BldF P T Tp Up c2] (hx : ev fr x = some (.pointer (some ⟨g, 0, none⟩))) [hb : HasBlk l g [v1, v2] T2]
    (k : WpL P n D ops rest Q ((d, .pointer (some ⟨g, 0, none⟩)) :: fr) l) : WpL P n D ops (⟨some d, .convert Tp Up x, ty, pos, aft, none⟩ :: rest) Q fr l :=
  WpL.val hd (fun a w _ hh hs => by
    obtain ⟨j, hj, hjs⟩ := Option.map_eq_some_iff.1 hB.sz
    have := Lib.run_to_unsafe (P := P) w ⟨g, 0, none⟩ hB.tp hB.up hj (by rw [hjs]; decide) (shape_of_blk (hb.sat hs)) (by simp)
    simp [execOp, hh.ev hx, this]) k
theorem s_fromu {d Tp Up T g c2 : Nat} {x : Operand} {v1 v2 : Value} (hd : Nat.blt d n = true) [hB : BldF P T Tp Up c2] (hx : ev fr x = some (.pointer (some ⟨g, 0, none⟩))) [hb : HasBlk l g [v1, v2] T]
    (k : WpL P n D ops rest Q ((d, .pointer (some ⟨g, 0, none⟩)) :: fr) l) : WpL P n D ops (⟨some d, .convert Up Tp x, ty, pos, aft, none⟩ :: rest) Q fr l :=
  WpL.val hd (fun a w _ hh hs => by
    obtain ⟨j, hj, hjs⟩ := Option.map_eq_some_iff.1 hB.sz
    have := Lib.run_from_unsafe (P := P) w ⟨g, 0, none⟩ hB.up hB.tp hj (shape_of_blk (hb.sat hs)) hB.lies
    simp [execOp, hh.ev hx, this]) k
class NoEsc (P : Program) (f : Nat) : Prop where
  run : ∀ (x : Value) (w : World), (callFunc f #[x]).run P w = .ok (.value x) w
theorem s_noesc {d f : Nat} {x : Operand} {v : Value} {at_ : Array Nat} (hd : Nat.blt d n = true) [hN : NoEsc P f] (hx : ev fr x = some v)
    (k : WpL P n D ops rest Q ((d, v) :: fr) l) : WpL P n D ops (⟨some d, .call ⟨.value (.func f), #[x], at_⟩, ty, pos, aft, none⟩ :: rest) Q fr l :=
  WpL.val hd (fun a w _ hh hs => by
    have := hN.run v w
    have e1 : a.eval (.func f) = .func (.func f) #[] #[] := rfl
    simp [execOp, resolve, Deferred.ofValue, invoke, e1, hh.ev hx, this]) k
theorem noesc_of {f : Nat} {fn : Func} (hf : P.funcs[f]? = some fn) (hname : (fn.name == "runtime.NumGoroutine") = false) (hb : fn.body.isNone = true) (hn : Extern.findNext fn = none) (he : Extern.find fn = some Extern.AbiNoEscape.same) : NoEsc P f := ⟨fun x w => by
  rw [run_callFunc_extern hf hname hb hn he, Lib.run_noEscape]; rfl⟩
theorem s_usd {d ty' m c g : Nat} {x : Operand} {at_ : Array Nat} (hd : Nat.blt d n = true) (hx : ev fr x = some (.slice (some ⟨g, 0, none⟩) m c)) (hc : c ≠ 0)
    (k : WpL P n D ops rest Q ((d, .pointer (some ⟨g, 0, none⟩)) :: fr) l) : WpL P n D ops (⟨some d, .call ⟨.builtin .unsafeSliceData, #[x], at_⟩, ty', pos, aft, none⟩ :: rest) Q fr l :=
  WpL.val hd (fun a w _ hh hs => by
    have := Lib.run_unsafeSliceData_row (P := P) (w := w) at_ ty' ⟨g, 0, none⟩ m c hc
    simp [execOp, resolve, invoke, builtin, hh.ev hx, this]) k
/-- unsafe.String over a row of one's own: the row is gone. -/
theorem s_uss {d pt it ty' e m c g m0 : Nat} {x y : Operand} {xs : List Int} {F : List HP} (hd : Nat.blt d n = true) (hp : P.underlying pt = some (.pointer e)) (hc1 : P.cellsOf e = 1) (hx : ev fr x = some (.pointer (some ⟨g, 0, none⟩))) (hy : ev fr y = some (.int .i64 (m : Int))) (htk : Take l [own e 1 (some ⟨g, 0, none⟩) c m0 (u8s xs)] F)
    (hm : xs.length = m) (h0 : 0 < m) (h63 : m ≤ 140737488355328) (hb : ∀ x ∈ xs, 0 ≤ x ∧ x ≤ 255) (k : WpL P n D ops rest Q ((d, .string (strOfNums xs)) :: fr) F) :
    WpL P n D ops (⟨some d, .call ⟨.builtin .unsafeString, #[x, y], #[pt, it]⟩, ty', pos, aft, none⟩ :: rest) Q fr l := by
  refine WpL.valx (σ := Unit) hd (fun _ => .string (strOfNums xs)) (fun _ => F) (fun A w U hh hs' => ⟨(), w.freeze ⟨g, 0, none⟩ m, ?_, ?_⟩) (fun _ => k)
  · obtain ⟨S, hpp, _⟩ := htk.ent' w U hs'
    rcases own_form hpp with ⟨e1, _⟩ | ⟨g', cur, e1, hg, hmc, hcs, h4, h5⟩
    · cases e1
    · injection e1 with e1
      injection e1 with e1 _ _
      subst e1
      obtain ⟨l8, hl8⟩ : ∃ l8 : List UInt8, l8 = xs.map fun x => x.toNat.toUInt8 := ⟨_, rfl⟩
      have hll : l8.length = m := by rw [hl8, List.length_map, hm]
      have h5' : xs.length = m0 := by rw [u8s_len] at h5; omega
      have hrun := Lib.run_unsafeString_row (P := P) (w := w) pt it ty' e hp hc1 g cur.size (by simp [World.shape?, hg]) l8 (fun e => by rw [e] at hll; simp at hll; omega) (by omega) (by omega) (fun j x hj => by
        have hjl : j < xs.length := by
          have := (List.getElem?_eq_some_iff.1 hj).1
          omega
        have hx2 : x = (xs[j]'hjl).toNat.toUInt8 := by
          rw [hl8, List.getElem?_map, List.getElem?_eq_getElem hjl] at hj
          simpa using hj.symm
        have hbx := hb _ (List.getElem_mem hjl)
        rw [own_cells hpp rfl j _ (u8s_at xs hjl), hx2]
        simp
        omega)
      rw [hll] at hrun
      have e2 : (⟨l8.toArray⟩ : ByteArray) = strOfNums xs := by
        rw [hl8]; simp [strOfNums]
      rw [e2] at hrun
      simp [execOp, resolve, invoke, builtin, hh.ev hx, hh.ev hy, hrun]
  · obtain ⟨V, ⟨S, ⟨hS, hown⟩, hSV, _⟩, hfr⟩ := Out.frame (pre := [own e 1 (some ⟨g, 0, none⟩) c m0 (u8s xs)]) (F := F) (htk.ent w U hs')
    have hh2 : ∀ b, b ≠ g → (w.freeze ⟨g, 0, none⟩ m).heap[b]? = w.heap[b]? := by
      intro b hb
      unfold World.freeze
      split
      · rfl
      · simp [Array.getElem?_modify, Ne.symm hb]
    have hsz : (w.freeze ⟨g, 0, none⟩ m).heap.size = w.heap.size := by unfold World.freeze; split <;> simp
    have := hfr [] (w.freeze ⟨g, 0, none⟩ m) ⟨trivial, by unfold World.freeze; split <;> rfl, by unfold World.freeze; split <;> rfl, by unfold World.freeze; split <;> rfl, by rw [hsz]; exact Nat.le_refl _, fun b hb hn => hh2 b fun e => hn (hSV b ((hS b).2 ⟨_, rfl, e⟩))⟩
    simpa using this
end
end Go.Proofs.Ytpoahaadnbdgcaa
