/- Operations of the walk's judgement: values, cells of blocks, rows of one's own. -/
import Derived.Test.YtpoahaadnbdgcaaWp
namespace Go.Proofs.Ytpoahaadnbdgcaa
open Go.RowKit Go.Shelf

/-! ### Blocks and rows -/
def blk (g : Nat) (cs : List Value) (T : Nat) : HP where
  p w S := (∀ b, S b ↔ b = g) ∧ w.heap[g]? = some (.cells cs.toArray T (0, 0))
  loc := fun ⟨hs, h⟩ _ hb => ⟨hs, (hb g ((hs g).2 rfl)).trans h⟩
  lt := fun ⟨hs, h⟩ b hb => by have := (hs b).1 hb; subst this; exact (Array.getElem?_eq_some_iff.1 h).1

/-- A row of one's own: n elements of s cells each, of the type T. -/
def own (T s : Nat) (a : Option Addr) (c n : Nat) (xs : List Value) : HP where
  p w S := (∀ b, S b ↔ ∃ ad, a = some ad ∧ b = ad.block) ∧ w.ownsRow 0 T s (.slice a n c) n xs
  loc := by
    rintro w w' S ⟨hs, h⟩ hz hb
    refine ⟨hs, h.1, ?_⟩
    rcases h.2 with h2 | ⟨g, cap, cur, e, hg, hh, rest⟩
    · exact .inl h2
    · refine .inr ⟨g, cap, cur, e, hg, ?_, rest⟩
      injection e with e1 e2 e3
      rw [hb g ((hs g).2 ⟨_, e1, rfl⟩)]
      exact hh
  lt := by
    rintro w S ⟨hs, h⟩ b hb
    obtain ⟨ad, e, rfl⟩ := (hs b).1 hb
    exact (h.lt ad.block (by rw [e]; rfl)).2

theorem own_nil (w : World) (T s c : Nat) (U : Nat → Prop) (l : List HP) (h : Sat w l U) (hc : c = 0) : Sat w (own T s none c 0 [] :: l) U := by
  subst hc
  exact ⟨fun _ => False, ⟨fun b => ⟨fun x => x.elim, fun ⟨ad, e, _⟩ => nomatch e⟩, World.ownsRow_nil w 0 T s⟩, fun _ x => x.elim, h.mono fun b hb => ⟨hb, fun x => x⟩⟩
theorem Ent.own_nil {T s : Nat} {l m : List HP} (h : Ent l m) : Ent l (own T s none 0 0 [] :: m) := fun w U x => Go.Proofs.Ytpoahaadnbdgcaa.own_nil w T s 0 U m (h w U x) rfl

/-- A block among the parts. -/
class HasBlk (l : List HP) (g : Nat) (cs : outParam (List Value)) (T : outParam Nat) : Prop where
  take : ∃ m, Take1 l (blk g cs T) m
instance HasBlk.here {g : Nat} {cs : List Value} {T : Nat} {l : List HP} : HasBlk (blk g cs T :: l) g cs T := ⟨_, .here⟩
instance (priority := low) HasBlk.there {A : HP} {g : Nat} {cs : List Value} {T : Nat} {l : List HP} [h : HasBlk l g cs T] : HasBlk (A :: l) g cs T := let ⟨m, t⟩ := h.take; ⟨A :: m, .there t⟩
theorem HasBlk.sat {l : List HP} {g T : Nat} {cs : List Value} (h : HasBlk l g cs T) {w : World} {U : Nat → Prop} (hs : Sat w l U) : w.heap[g]? = some (.cells cs.toArray T (0, 0)) := by
  obtain ⟨m, t⟩ := h.take
  obtain ⟨S, hp, _⟩ := t.ent w U hs
  exact hp.2
/-- The same parts, with other cells in a block. -/
class SetBlk (l : List HP) (g : Nat) (cs' : List Value) (l' : outParam (List HP)) : Prop where
  take : ∃ m cs T, Take1 l (blk g cs T) m ∧ Ent (blk g cs' T :: m) l' ∧ cs.length = cs'.length
class SameLen (cs ds : List Value) : Prop where
  eq : cs.length = ds.length
instance SameLen.nil : SameLen [] [] := ⟨rfl⟩
instance SameLen.cons {c d : Value} {cs ds : List Value} [h : SameLen cs ds] : SameLen (c :: cs) (d :: ds) := ⟨by simp [h.eq]⟩
instance SetBlk.here {g : Nat} {cs cs' : List Value} {T : Nat} {l : List HP} [h : SameLen cs cs'] : SetBlk (blk g cs T :: l) g cs' (blk g cs' T :: l) := ⟨l, cs, T, .here, .refl _, h.eq⟩
instance (priority := low) SetBlk.there {A : HP} {g : Nat} {cs' : List Value} {l l' : List HP} [h : SetBlk l g cs' l'] : SetBlk (A :: l) g cs' (A :: l') :=
  let ⟨m, cs, T, t, e, hl⟩ := h.take; ⟨A :: m, cs, T, .there t, Ent.swap.trans (Ent.cons e), hl⟩
class SetNth (cs : List Value) (o : Nat) (v : Value) (cs' : outParam (List Value)) : Prop where
  eq : cs' = cs.set o v ∧ o < cs.length
instance SetNth.zero {c v : Value} {cs : List Value} : SetNth (c :: cs) 0 v (v :: cs) := ⟨by simp⟩
instance SetNth.succ {c v : Value} {cs cs' : List Value} {o : Nat} [h : SetNth cs o v cs'] : SetNth (c :: cs) (o + 1) v (c :: cs') := ⟨by simp [h.eq.1]; exact h.eq.2⟩

/-! ### Facts of types -/
class Scal (P : Program) (T : Nat) : Prop where
  agg : ∀ w, (isAgg T).run P w = .ok false w
  size : ∀ w, (sizeOf T).run P w = .ok 1 w
class AggT (P : Program) (T : Nat) (k : outParam Nat) : Prop where
  agg : ∀ w, (isAgg T).run P w = .ok true w
  size : ∀ w, (sizeOf T).run P w = .ok k w
class FOff (P : Program) (T k : Nat) (off : outParam Nat) : Prop where
  run : ∀ g o w, (Instr.fieldAt T (.pointer (some ⟨g, o, none⟩)) k).run P w = .ok (.pointer (some ((⟨g, o, none⟩ : Addr).add off))) w
class FVal (P : Program) (T k : Nat) (off : outParam Nat) : Prop where
  run : ∀ (cs : Array Value) v w, cs[off]? = some v → (Instr.field T (.agg cs) k).run P w = .ok v w
class ZeroT (P : Program) (T : Nat) (z : outParam (List Value)) : Prop where
  run : ∀ w, (zeroValue T).run P w = .ok (.agg z.toArray) w ∨ ∃ v, (zeroValue T).run P w = .ok v w ∧ v.cells = z.toArray
class SlT (P : Program) (t : Nat) (e size bytes : outParam Nat) (z : outParam Value) : Prop where
  hu : P.underlying t = some (.slice e)
  hi : (P.info? e).map (fun i => (i.zero, i.size, i.bytes)) = some (some z, size, bytes)
class IntT (P : Program) (T : Nat) (k : outParam IntKind) : Prop where
  hu : P.underlying T = some (.int k)
class Ent1 (P : Program) (f : Nat) : Prop where
  run : Enters P f

section
variable {P : Program} {n : Cx} {D : List Deferred} {ops : Array Oper} {rest : List Oper} {Q : Post} {fr : Fr} {l m : List HP} {ty : Nat} {pos : String} {aft : Array Edge}

theorem add0 (g o k : Nat) : (⟨g, o, none⟩ : Addr).add k = ⟨g, o + k, none⟩ := by unfold Addr.add; split <;> simp_all

/-! ### Plain values -/
theorem s_mv {d : Nat} {x : Operand} {v : Value} (hd : Nat.blt d n = true) (hx : ev fr x = some v) (k : WpL P n D ops rest Q ((d, v) :: fr) l) : WpL P n D ops (⟨some d, .move x, ty, pos, aft, none⟩ :: rest) Q fr l :=
  WpL.val hd (fun a w _ hh _ => by simp [execOp, hh.ev hx]) k
theorem s_as {d : Nat} {x : Operand} {v : Value} (hd : Nat.blt d n = true) (hx : ev fr x = some v) (k : WpL P n D ops rest Q ((d, v) :: fr) l) : WpL P n D ops (⟨some d, .assign x, ty, pos, aft, none⟩ :: rest) Q fr l :=
  WpL.val hd (fun a w _ hh _ => by simp [execOp, hh.ev hx]) k
theorem s_pickT {d : Nat} {c x y : Operand} {v : Value} (hd : Nat.blt d n = true) (hc : ev fr c = some (.bool true)) (hx : ev fr x = some v) (k : WpL P n D ops rest Q ((d, v) :: fr) l) : WpL P n D ops (⟨some d, .pick c x y, ty, pos, aft, none⟩ :: rest) Q fr l :=
  WpL.val hd (fun a w _ hh _ => by simp [execOp, hh.ev hx, hh.ev hc, asBool]) k
theorem s_pickF {d : Nat} {c x y : Operand} {v : Value} (hd : Nat.blt d n = true) (hc : ev fr c = some (.bool false)) (hy : ev fr y = some v) (k : WpL P n D ops rest Q ((d, v) :: fr) l) : WpL P n D ops (⟨some d, .pick c x y, ty, pos, aft, none⟩ :: rest) Q fr l :=
  WpL.val hd (fun a w _ hh _ => by simp [execOp, hh.ev hy, hh.ev hc, asBool]) k
theorem s_nc {d : Nat} {x : Operand} {ad : Addr} (hd : Nat.blt d n = true) (hx : ev fr x = some (.pointer (some ad))) (k : WpL P n D ops rest Q ((d, .pointer (some ad)) :: fr) l) : WpL P n D ops (⟨some d, .nilCheck x, ty, pos, aft, none⟩ :: rest) Q fr l :=
  WpL.val hd (fun a w _ hh _ => by simp [execOp, hh.ev hx]) k
theorem s_ncf {d : Nat} {x : Operand} {f : Nat} {u v : Array Value} (hd : Nat.blt d n = true) (hx : ev fr x = some (.func (.func f) u v)) (k : WpL P n D ops rest Q ((d, .func (.func f) u v) :: fr) l) : WpL P n D ops (⟨some d, .nilCheck x, ty, pos, aft, none⟩ :: rest) Q fr l :=
  WpL.val hd (fun a w _ hh _ => by simp [execOp, hh.ev hx]) k
theorem s_ext {d i : Nat} {x : Operand} {vs : List Value} {v : Value} (hd : Nat.blt d n = true) (hx : ev fr x = some (.tuple vs.toArray)) (hv : vs[i]? = some v) (k : WpL P n D ops rest Q ((d, v) :: fr) l) : WpL P n D ops (⟨some d, .extract x i, ty, pos, aft, none⟩ :: rest) Q fr l :=
  WpL.val hd (fun a w _ hh _ => by simp [execOp, hh.ev hx, Instr.extract, hv]) k
theorem s_not {d T : Nat} {x : Operand} {b : Bool} (hd : Nat.blt d n = true) (hx : ev fr x = some (.bool b)) (k : WpL P n D ops rest Q ((d, .bool (!b)) :: fr) l) : WpL P n D ops (⟨some d, .unOp .not T x, ty, pos, aft, none⟩ :: rest) Q fr l :=
  WpL.val hd (fun a w _ hh _ => by simp [execOp, hh.ev hx, Op.unary]) k
theorem s_mkf {d f : Nat} {xs : List Operand} {vs : List Value} (hd : Nat.blt d n = true) (hx : ∀ a, Holds n D a fr → (xs.map a.eval) = vs) (k : WpL P n D ops rest Q ((d, .func (.func f) #[] vs.toArray) :: fr) l) :
    WpL P n D ops (⟨some d, .makeFunc (.func f) #[] xs.toArray, ty, pos, aft, none⟩ :: rest) Q fr l :=
  WpL.val hd (fun a w _ hh _ => by simp [execOp, ← hx a hh, Instr.makeFunc]) k

/-! whole numbers -/
theorem s_bin {d T T2 : Nat} {op : BinOp} {x y : Operand} {kk : IntKind} {i j : Int} {v : Value} (hd : Nat.blt d n = true) (hx : ev fr x = some (.int kk i)) (hy : ev fr y = some (.int kk j))
    (hr : ∀ w, (binOp op T (.int kk i) (.int kk j)).run P w = .ok v w) (k : WpL P n D ops rest Q ((d, v) :: fr) l) : WpL P n D ops (⟨some d, .binOp op T x y T2, ty, pos, aft, none⟩ :: rest) Q fr l :=
  WpL.val hd (fun a w _ hh _ => by simp [execOp, hh.ev hx, hh.ev hy, eqGuard, hr]) k
theorem s_add {d T T2 : Nat} {x y : Operand} {kk : IntKind} {i j : Int} (hd : Nat.blt d n = true) (hx : ev fr x = some (.int kk i)) (hy : ev fr y = some (.int kk j)) (hw : kk.wrap (i + j) = i + j)
    (k : WpL P n D ops rest Q ((d, .int kk (i + j)) :: fr) l) : WpL P n D ops (⟨some d, .binOp .add T x y T2, ty, pos, aft, none⟩ :: rest) Q fr l :=
  s_bin hd hx hy (fun w => by simp [binOp, Op.intArith, hw]) k
theorem s_sub {d T T2 : Nat} {x y : Operand} {kk : IntKind} {i j : Int} (hd : Nat.blt d n = true) (hx : ev fr x = some (.int kk i)) (hy : ev fr y = some (.int kk j)) (hw : kk.wrap (i - j) = i - j)
    (k : WpL P n D ops rest Q ((d, .int kk (i - j)) :: fr) l) : WpL P n D ops (⟨some d, .binOp .sub T x y T2, ty, pos, aft, none⟩ :: rest) Q fr l :=
  s_bin hd hx hy (fun w => by simp [binOp, Op.intArith, hw]) k
theorem s_mul {d T T2 : Nat} {x y : Operand} {kk : IntKind} {i j : Int} (hd : Nat.blt d n = true) (hx : ev fr x = some (.int kk i)) (hy : ev fr y = some (.int kk j)) (hw : kk.wrap (i * j) = i * j)
    (k : WpL P n D ops rest Q ((d, .int kk (i * j)) :: fr) l) : WpL P n D ops (⟨some d, .binOp .mul T x y T2, ty, pos, aft, none⟩ :: rest) Q fr l :=
  s_bin hd hx hy (fun w => by simp [binOp, Op.intArith, hw]) k
theorem s_addw {d T T2 : Nat} {x y : Operand} {kk : IntKind} {i j : Int} (hd : Nat.blt d n = true) (hx : ev fr x = some (.int kk i)) (hy : ev fr y = some (.int kk j))
    (k : WpL P n D ops rest Q ((d, .int kk (kk.wrap (i + j))) :: fr) l) : WpL P n D ops (⟨some d, .binOp .add T x y T2, ty, pos, aft, none⟩ :: rest) Q fr l :=
  s_bin hd hx hy (fun w => by simp [binOp, Op.intArith]) k
theorem s_subw {d T T2 : Nat} {x y : Operand} {kk : IntKind} {i j : Int} (hd : Nat.blt d n = true) (hx : ev fr x = some (.int kk i)) (hy : ev fr y = some (.int kk j))
    (k : WpL P n D ops rest Q ((d, .int kk (kk.wrap (i - j))) :: fr) l) : WpL P n D ops (⟨some d, .binOp .sub T x y T2, ty, pos, aft, none⟩ :: rest) Q fr l :=
  s_bin hd hx hy (fun w => by simp [binOp, Op.intArith]) k
theorem s_mulw {d T T2 : Nat} {x y : Operand} {kk : IntKind} {i j : Int} (hd : Nat.blt d n = true) (hx : ev fr x = some (.int kk i)) (hy : ev fr y = some (.int kk j))
    (k : WpL P n D ops rest Q ((d, .int kk (kk.wrap (i * j))) :: fr) l) : WpL P n D ops (⟨some d, .binOp .mul T x y T2, ty, pos, aft, none⟩ :: rest) Q fr l :=
  s_bin hd hx hy (fun w => by simp [binOp, Op.intArith]) k
theorem s_eq {d T T2 : Nat} {x y : Operand} {kk : IntKind} {i j : Int} (hd : Nat.blt d n = true) (hx : ev fr x = some (.int kk i)) (hy : ev fr y = some (.int kk j))
    (k : WpL P n D ops rest Q ((d, .bool (decide (i = j))) :: fr) l) : WpL P n D ops (⟨some d, .binOp .eql T x y T2, ty, pos, aft, none⟩ :: rest) Q fr l :=
  s_bin hd hx hy (fun w => by simp [binOp, Op.intCmp]; rfl) k
theorem s_ne {d T T2 : Nat} {x y : Operand} {kk : IntKind} {i j : Int} (hd : Nat.blt d n = true) (hx : ev fr x = some (.int kk i)) (hy : ev fr y = some (.int kk j))
    (k : WpL P n D ops rest Q ((d, .bool (decide (i ≠ j))) :: fr) l) : WpL P n D ops (⟨some d, .binOp .neq T x y T2, ty, pos, aft, none⟩ :: rest) Q fr l :=
  s_bin hd hx hy (fun w => by simp [binOp, Op.intCmp]; rfl) k
theorem s_lt {d T T2 : Nat} {x y : Operand} {kk : IntKind} {i j : Int} (hd : Nat.blt d n = true) (hx : ev fr x = some (.int kk i)) (hy : ev fr y = some (.int kk j))
    (k : WpL P n D ops rest Q ((d, .bool (decide (i < j))) :: fr) l) : WpL P n D ops (⟨some d, .binOp .lss T x y T2, ty, pos, aft, none⟩ :: rest) Q fr l :=
  s_bin hd hx hy (fun w => by simp [binOp, Op.intCmp]) k
theorem s_le {d T T2 : Nat} {x y : Operand} {kk : IntKind} {i j : Int} (hd : Nat.blt d n = true) (hx : ev fr x = some (.int kk i)) (hy : ev fr y = some (.int kk j))
    (k : WpL P n D ops rest Q ((d, .bool (decide (i ≤ j))) :: fr) l) : WpL P n D ops (⟨some d, .binOp .leq T x y T2, ty, pos, aft, none⟩ :: rest) Q fr l :=
  s_bin hd hx hy (fun w => by simp [binOp, Op.intCmp]) k
theorem s_gt {d T T2 : Nat} {x y : Operand} {kk : IntKind} {i j : Int} (hd : Nat.blt d n = true) (hx : ev fr x = some (.int kk i)) (hy : ev fr y = some (.int kk j))
    (k : WpL P n D ops rest Q ((d, .bool (decide (j < i))) :: fr) l) : WpL P n D ops (⟨some d, .binOp .gtr T x y T2, ty, pos, aft, none⟩ :: rest) Q fr l :=
  s_bin hd hx hy (fun w => by simp [binOp, Op.intCmp]) k
theorem s_ge {d T T2 : Nat} {x y : Operand} {kk : IntKind} {i j : Int} (hd : Nat.blt d n = true) (hx : ev fr x = some (.int kk i)) (hy : ev fr y = some (.int kk j))
    (k : WpL P n D ops rest Q ((d, .bool (decide (j ≤ i))) :: fr) l) : WpL P n D ops (⟨some d, .binOp .geq T x y T2, ty, pos, aft, none⟩ :: rest) Q fr l :=
  s_bin hd hx hy (fun w => by simp [binOp, Op.intCmp]) k
/-- x / y of numbers that are not below 0. -/
theorem s_quo {d T T2 : Nat} {x y : Operand} {kk : IntKind} {i j : Int} (hd : Nat.blt d n = true) (hx : ev fr x = some (.int kk i)) (hy : ev fr y = some (.int kk j)) (h0 : 0 ≤ i) (h1 : 0 < j) (hw : kk.wrap (i / j) = i / j)
    (k : WpL P n D ops rest Q ((d, .int kk (i / j)) :: fr) l) : WpL P n D ops (⟨some d, .binOp .quo T x y T2, ty, pos, aft, none⟩ :: rest) Q fr l :=
  s_bin hd hx hy (fun w => by simp [binOp, Op.intDiv, Int.tdiv_eq_ediv_of_nonneg h0, hw, Int.ne_of_gt h1]) k
theorem s_rem {d T T2 : Nat} {x y : Operand} {kk : IntKind} {i j : Int} (hd : Nat.blt d n = true) (hx : ev fr x = some (.int kk i)) (hy : ev fr y = some (.int kk j)) (h0 : 0 ≤ i) (h1 : 0 < j)
    (k : WpL P n D ops rest Q ((d, .int kk (i % j)) :: fr) l) : WpL P n D ops (⟨some d, .binOp .rem T x y T2, ty, pos, aft, none⟩ :: rest) Q fr l :=
  s_bin hd hx hy (fun w => by simp [binOp, Op.intDiv, Int.tmod_eq_emod_of_nonneg h0, Int.ne_of_gt h1]) k
theorem s_remt {d T T2 : Nat} {x y : Operand} {kk : IntKind} {i j : Int} (hd : Nat.blt d n = true) (hx : ev fr x = some (.int kk i)) (hy : ev fr y = some (.int kk j)) (h1 : j ≠ 0)
    (k : WpL P n D ops rest Q ((d, .int kk (i.tmod j)) :: fr) l) : WpL P n D ops (⟨some d, .binOp .rem T x y T2, ty, pos, aft, none⟩ :: rest) Q fr l :=
  s_bin hd hx hy (fun w => by simp [binOp, Op.intDiv, h1]) k
theorem s_quot {d T T2 : Nat} {x y : Operand} {kk : IntKind} {i j : Int} (hd : Nat.blt d n = true) (hx : ev fr x = some (.int kk i)) (hy : ev fr y = some (.int kk j)) (h1 : j ≠ 0) (hw : kk.wrap (i.tdiv j) = i.tdiv j)
    (k : WpL P n D ops rest Q ((d, .int kk (i.tdiv j)) :: fr) l) : WpL P n D ops (⟨some d, .binOp .quo T x y T2, ty, pos, aft, none⟩ :: rest) Q fr l :=
  s_bin hd hx hy (fun w => by simp [binOp, Op.intDiv, h1, hw]) k
theorem s_cvi {d S T : Nat} {x : Operand} {k1 k2 : IntKind} {i : Int} {Dt : TypeDesc} (hd : Nat.blt d n = true) (hS : P.underlying S = some Dt) [hT : IntT P T k2] (hx : ev fr x = some (.int k1 i)) (hw : k2.wrap i = i)
    (k : WpL P n D ops rest Q ((d, .int k2 i) :: fr) l) : WpL P n D ops (⟨some d, .convert S T x, ty, pos, aft, none⟩ :: rest) Q fr l :=
  WpL.val hd (fun a w _ hh _ => by simp [execOp, hh.ev hx, convert, run_underlying hS, run_underlying hT.hu, Conv.intToInt, hw]) k
theorem s_cviw {d S T : Nat} {x : Operand} {k1 k2 : IntKind} {i : Int} {Dt : TypeDesc} (hd : Nat.blt d n = true) (hS : P.underlying S = some Dt) [hT : IntT P T k2] (hx : ev fr x = some (.int k1 i))
    (k : WpL P n D ops rest Q ((d, .int k2 (k2.wrap i)) :: fr) l) : WpL P n D ops (⟨some d, .convert S T x, ty, pos, aft, none⟩ :: rest) Q fr l :=
  WpL.val hd (fun a w _ hh _ => by simp [execOp, hh.ev hx, convert, run_underlying hS, run_underlying hT.hu, Conv.intToInt]) k

/-! ### Cells -/
theorem s_fa {d T f off g o o2 : Nat} {x : Operand} (hd : Nat.blt d n = true) [hf : FOff P T f off] (hx : ev fr x = some (.pointer (some ⟨g, o, none⟩))) (ho : o + off = o2)
    (k : WpL P n D ops rest Q ((d, .pointer (some ⟨g, o2, none⟩)) :: fr) l) : WpL P n D ops (⟨some d, .fieldAddr T x f, ty, pos, aft, none⟩ :: rest) Q fr l :=
  WpL.val hd (fun a w _ hh _ => by simp only [execOp, hh.ev hx, Sem.run_bind, hf.run, Result.andThen_ok, add0, ho]; rfl) k
theorem s_ld {d T T2 g o : Nat} {x : Operand} {cs : List Value} {v : Value} (hd : Nat.blt d n = true) [hT : Scal P T] (hx : ev fr x = some (.pointer (some ⟨g, o, none⟩))) [hb : HasBlk l g cs T2] (hv : cs[o]? = some v)
    (k : WpL P n D ops rest Q ((d, v) :: fr) l) : WpL P n D ops (⟨some d, .load T x, ty, pos, aft, none⟩ :: rest) Q fr l :=
  WpL.val hd (fun a w U hh hs => by
    have hc : w.cell? ⟨g, o, none⟩ = some v := (cell_of_row w g o _ _ _ (hb.sat hs)).trans (by simpa using hv)
    simp [execOp, hh.ev hx, Instr.loadAt, Instr.sureAddr, loadVar, hT.agg, run_load, hc]) k
theorem drop_at (cs vs : List Value) (o : Nat) (h : (cs.drop o).take vs.length = vs) (j : Nat) (v : Value) (hj : vs[j]? = some v) : cs[o + j]? = some v := by
  rw [← h, List.getElem?_take] at hj
  split at hj
  · rwa [List.getElem?_drop] at hj
  · cases hj
/-- A struct out of its cells. -/
theorem s_lda {d T T2 g o kk : Nat} {x : Operand} {cs vs : List Value} (hd : Nat.blt d n = true) [hT : AggT P T kk] (hx : ev fr x = some (.pointer (some ⟨g, o, none⟩))) [hb : HasBlk l g cs T2] (hn : vs.length = kk) (hv : (cs.drop o).take vs.length = vs)
    (k : WpL P n D ops rest Q ((d, .agg vs.toArray) :: fr) l) : WpL P n D ops (⟨some d, .load T x, ty, pos, aft, none⟩ :: rest) Q fr l :=
  WpL.val hd (fun a w U hh hs => by
    have hc : ∀ j v, vs[j]? = some v → w.cell? ((⟨g, o, none⟩ : Addr).add j) = some v := fun j v hj => by
      rw [add0, cell_of_row w g _ _ _ _ (hb.sat hs)]; simpa using drop_at cs vs o hv j v hj
    have := run_loadCells_list (P := P) w ⟨g, o, none⟩ vs hc
    rw [hn] at this
    simp [execOp, hh.ev hx, Instr.loadAt, Instr.sureAddr, loadVar, hT.agg, hT.size, this]) k
theorem s_fv {d T f off : Nat} {x : Operand} {vs : List Value} {v : Value} (hd : Nat.blt d n = true) [hf : FVal P T f off] (hx : ev fr x = some (.agg vs.toArray)) (hv : vs[off]? = some v)
    (k : WpL P n D ops rest Q ((d, v) :: fr) l) : WpL P n D ops (⟨some d, .field T x f, ty, pos, aft, none⟩ :: rest) Q fr l :=
  WpL.val hd (fun a w U hh hs => by simp [execOp, hh.ev hx, hf.run vs.toArray v w (by simpa using hv)]) k

theorem sat_set {w : World} {U : Nat → Prop} {g : Nat} {cs : List Value} {T : Nat} {F : List HP} (h : Sat w (blk g cs T :: F) U) (o : Nat) (v : Value) :
    Out (blk g (cs.set o v) T :: F) U w (w.setCell ⟨g, o, none⟩ v) := by
  obtain ⟨V, ⟨S, ⟨hS, hg⟩, hSV, _⟩, hfr⟩ := Out.frame (pre := [blk g cs T]) (F := F) h
  refine hfr [blk g (cs.set o v) T] _ ⟨⟨S, ⟨hS, ?_⟩, fun b hb => .inl (hSV b hb), trivial⟩, ?_⟩
  · have := heap_setCell_same w g o cs.toArray T v hg
    simpa using this
  · refine ⟨rfl, rfl, rfl, by simp, fun b hb hn => heap_setCell_other w _ b v fun e => hn (hSV b ((hS b).2 e))⟩
theorem s_st {T g o : Nat} {x y : Operand} {cs cs' : List Value} {T2 : Nat} {v : Value} {l' : List HP} [hT : Scal P T] (hx : ev fr x = some (.pointer (some ⟨g, o, none⟩))) (hy : ev fr y = some v) (h1 : v.oneCell' = true)
    [hb : HasBlk l g cs T2] [hn : SetNth cs o v cs'] [hsb : SetBlk l g cs' l'] (k : WpL P n D ops rest Q fr l') : WpL P n D ops (⟨none, .store T x y, ty, pos, aft, none⟩ :: rest) Q fr l := by
  refine WpL.skp (m := l') (fun a w U hh hs => ?_) k
  obtain ⟨m, ds, T3, ht, he, _⟩ := hsb.take
  have hs2 := ht.ent w U hs
  have hg1 := hb.sat hs
  have hg2 : w.heap[g]? = some (.cells ds.toArray T3 (0, 0)) := by obtain ⟨S, hp, _⟩ := hs2; exact hp.2
  have hcs : ds = cs ∧ T3 = T2 := by
    rw [hg1] at hg2
    injection hg2 with hg2
    injection hg2 with e1 e2
    exact ⟨(congrArg Array.toList e1).symm, e2.symm⟩
  obtain ⟨rfl, rfl⟩ := hcs
  have hc : w.cell? ⟨g, o, none⟩ = some (ds[o]'hn.eq.2) := by
    rw [cell_of_row w g o _ _ _ hg1]
    simp [List.getElem?_eq_getElem hn.eq.2]
  have hfz := frozen_of_row w g o _ _ hg1
  refine ⟨w.setCell ⟨g, o, none⟩ v, ?_, ((sat_set hs2 o v).ent (by rw [← hn.eq.1]; exact he))⟩
  have hcell : v.cells = #[v] := by cases v <;> simp [Value.oneCell'] at h1 <;> rfl
  have hst := run_store P w ⟨g, o, none⟩ v .plain h1
  rw [hc] at hst
  simp only [hfz] at hst
  simp [execOp, hh.ev hx, hh.ev hy, Instr.storeAt, Instr.sureAddr, storeVar, hcell, hT.size, storeCells, add0]
  simpa using congrArg (fun r => Result.andThen r fun _ w' => Result.ok Next.skip w') hst

theorem out_alloc {w : World} {U : Nat → Prop} (h : Sat w l U) (cs : List Value) (T : Nat) : Out (blk w.heap.size cs T :: l) U w (w.alloc (.cells cs.toArray T)) := by
  have hb : Below w.heap.size w (w.alloc (.cells cs.toArray T)) := (Below.refl _ _).alloc (Nat.le_refl _) _
  have h2 : Sat (w.alloc (.cells cs.toArray T)) l (fun b => U b ∧ b < w.heap.size) := h.inside.keep hb.size fun b _ hlt => hb.block b hlt
  refine ⟨⟨fun b => b = w.heap.size, ⟨fun _ => Iff.rfl, heap_alloc_new _ _⟩, fun b hb => .inr (Nat.le_of_eq hb.symm), h2.mono fun b hb => ⟨.inl hb.1, fun e => ?_⟩⟩, .of_below hb⟩
  rw [e] at hb; exact absurd hb.2 (Nat.lt_irrefl _)
theorem s_box {d T : Nat} {x : Operand} {v : Value} {cs : List Value} (hd : Nat.blt d n = true) (hx : ev fr x = some v) (hc : v.cells = cs.toArray)
    (k : ∀ g, WpL P n D ops rest Q ((d, .pointer (some ⟨g, 0, none⟩)) :: fr) (blk g cs T :: l)) : WpL P n D ops (⟨some d, .box T x, ty, pos, aft, none⟩ :: rest) Q fr l :=
  WpL.valx hd (fun g => .pointer (some ⟨g, 0, none⟩)) (fun g => blk g cs T :: l) (fun a w U hh hs => ⟨w.heap.size, _, by simp [execOp, hh.ev hx, Instr.box, newVar, newRow, hc], out_alloc hs cs T⟩) k
theorem s_al {d T : Nat} {z : List Value} (hd : Nat.blt d n = true) [hz : ZeroT P T z]
    (k : ∀ g, WpL P n D ops rest Q ((d, .pointer (some ⟨g, 0, none⟩)) :: fr) (blk g z T :: l)) : WpL P n D ops (⟨some d, .alloc T, ty, pos, aft, none⟩ :: rest) Q fr l :=
  WpL.valx hd (fun g => .pointer (some ⟨g, 0, none⟩)) (fun g => blk g z T :: l) (fun a w U hh hs => by
    refine ⟨w.heap.size, w.alloc (.cells z.toArray T), ?_, out_alloc hs z T⟩
    rcases hz.run w with h | ⟨v, h, hv⟩
    · simp [execOp, Instr.alloc, h, newVar, newRow, Value.cells]
    · simp [execOp, Instr.alloc, h, newVar, newRow, hv]) k

/-! ### Calls of a known function -/
def evs (fr : Fr) : List Operand → Option (List Value)
  | [] => some []
  | x :: xs => match ev fr x with
    | some v => match evs fr xs with
      | some vs => some (v :: vs)
      | none => none
    | none => none
theorem evs_map {a : Act} (hh : Holds n D a fr) : ∀ (xs : List Operand) (vs : List Value), evs fr xs = some vs → xs.map a.eval = vs
  | [], vs, h => by simp [evs] at h; simp [h]
  | x :: xs, vs, h => by
    simp only [evs] at h
    cases hx : ev fr x with
    | none => rw [hx] at h; cases h
    | some v =>
      rw [hx] at h
      cases hr : evs fr xs with
      | none => simp [hr] at h
      | some us =>
        simp only [hr, Option.some.injEq] at h
        rw [List.map_cons, hh.ev hx, evs_map hh xs us hr, h]
theorem s_call {d f : Nat} {fo : Operand} {xs : List Operand} {vs ws : List Value} {u c : List Value} {at_ : Array Nat} {pre F : List HP} {R : Value → List HP → Prop} (hd : Nat.blt d n = true) [he : Ent1 P f]
    (hf : ev fr fo = some (.func (.func f) u.toArray c.toArray)) (hx : evs fr xs = some vs) (hw : u ++ vs ++ c = ws) (ht : Take l pre F) (h : Fn P f ws.toArray pre R)
    (k : ∀ v m, R v m → WpL P n D ops rest Q ((d, v) :: fr) (m ++ F)) : WpL P n D ops (⟨some d, .call ⟨.value fo, xs.toArray, at_⟩, ty, pos, aft, none⟩ :: rest) Q fr l :=
  WpL.call hd f (fun a w hh => by
    have e1 := hh.ev hf
    have e2 := evs_map hh xs vs hx
    have e3 := he.run ws.toArray w
    subst hw
    simp only [execOp, resolve, Deferred.ofValue, invoke, Sem.run_bind, e1, Sem.run_pure, Result.andThen_ok, List.map_toArray, e2]
    simpa using e3) h ht k
theorem s_callf {d f : Nat} {xs : List Operand} {vs : List Value} {at_ : Array Nat} {pre F : List HP} {R : Value → List HP → Prop} (hd : Nat.blt d n = true) [he : Ent1 P f]
    (hx : evs fr xs = some vs) (ht : Take l pre F) (h : Fn P f vs.toArray pre R)
    (k : ∀ v m, R v m → WpL P n D ops rest Q ((d, v) :: fr) (m ++ F)) : WpL P n D ops (⟨some d, .call ⟨.value (.func f), xs.toArray, at_⟩, ty, pos, aft, none⟩ :: rest) Q fr l :=
  s_call (u := []) (c := []) hd rfl hx (by simp) ht h k
end
end Go.Proofs.Ytpoahaadnbdgcaa
