/- More operations of the walk's judgement: rows, lengths, structs stored, tests whose outcome is known. -/
import Derived.Test.YtpoahaadnbdgcaaDraw
import Derived.IntWalk
import Derived.Maps.AppendAt
namespace Go.Proofs.Ytpoahaadnbdgcaa
open Go.RowKit Go.Shelf

theorem w_i64 {x : Int} (h1 : -9223372036854775808 ≤ x) (h2 : x ≤ 9223372036854775807) : IntKind.i64.wrap x = x := IntWalk.i64_in x ⟨h1, h2⟩
theorem w_u8 {x : Int} (h1 : 0 ≤ x) (h2 : x ≤ 255) : IntKind.u8.wrap x = x := by simp [IntKind.wrap, IntKind.bits, IntKind.signed]; omega
theorem w_u16 {x : Int} (h1 : 0 ≤ x) (h2 : x ≤ 65535) : IntKind.u16.wrap x = x := by simp [IntKind.wrap, IntKind.bits, IntKind.signed]; omega
theorem w_u32 {x : Int} (h1 : 0 ≤ x) (h2 : x ≤ 4294967295) : IntKind.u32.wrap x = x := by simp [IntKind.wrap, IntKind.bits, IntKind.signed]; omega
theorem w_u64 {x : Int} (h1 : 0 ≤ x) (h2 : x ≤ 18446744073709551615) : IntKind.u64.wrap x = x := by simp [IntKind.wrap, IntKind.bits, IntKind.signed]; omega

section
variable {P : Program} {n : Cx} {D : List Deferred} {ops : Array Oper} {rest : List Oper} {Q : Post} {fr : Fr} {l m : List HP} {ty : Nat} {pos : String} {aft : Array Edge}

theorem Wp.condDT {c : Operand} {x y : Code} {p : Prop} [Decidable p] (hc : ev fr c = some (.bool (decide p))) (hp : p) (h1 : Wp P n D x Q fr l) : Wp P n D (.cond c x y) Q fr l := Wp.condD hc (fun _ => h1) (fun h => absurd hp h)
theorem Wp.condDF {c : Operand} {x y : Code} {p : Prop} [Decidable p] (hc : ev fr c = some (.bool (decide p))) (hp : ¬ p) (h1 : Wp P n D y Q fr l) : Wp P n D (.cond c x y) Q fr l := Wp.condD hc (fun h => absurd h hp) (fun _ => h1)
theorem Wp.condBT {c : Operand} {x y : Code} {t : Bool} (hc : ev fr c = some (.bool t)) (hp : t = true) (h1 : Wp P n D x Q fr l) : Wp P n D (.cond c x y) Q fr l := Wp.cond hc (fun _ => h1) (fun h => by rw [hp] at h; cases h)
theorem Wp.condBF {c : Operand} {x y : Code} {t : Bool} (hc : ev fr c = some (.bool t)) (hp : t = false) (h1 : Wp P n D y Q fr l) : Wp P n D (.cond c x y) Q fr l := Wp.cond hc (fun h => by rw [hp] at h; cases h) (fun _ => h1)
theorem WpL.knowT {dj : Nat} {t : Bool} (hl : lk fr dj = some (.bool t)) (ht : t = true) (k : WpL P n D ops rest Q ((dj, .bool true) :: fr) l) : WpL P n D ops rest Q fr l := fun a w U hh hs => k a w U (hh.know hl (by rw [ht])) hs
theorem WpL.knowF {dj : Nat} {t : Bool} (hl : lk fr dj = some (.bool t)) (ht : t = false) (k : WpL P n D ops rest Q ((dj, .bool false) :: fr) l) : WpL P n D ops rest Q fr l := fun a w U hh hs => k a w U (hh.know hl (by rw [ht])) hs

/-- A guard whose own operation was left out. -/
theorem WpL.goffU {d : Nat} {op : Op} {j dj : Nat} {b : Bool} (hd : Nat.blt d n = true) (hj : (ops[j]?).bind (·.dst) = some dj) (hl : lk fr dj = some undef)
    (k : WpL P n D ops rest Q ((d, undef) :: fr) l) : WpL P n D ops (⟨some d, op, ty, pos, aft, some (j, b)⟩ :: rest) Q fr l := by
  intro a w U hh hs
  have h1 := hh.2.2 dj _ hl
  have hy : yielded ops a.tmps j = none := by
    unfold yielded
    rw [hj]
    simp only [Option.bind_some]
    simp only [Array.getD] at h1
    split at h1
    · rename_i hs; rw [Array.getElem?_eq_getElem hs]; simp only [Array.getInternal_eq_getElem] at h1; rw [h1]; rfl
    · rename_i hs; rw [Array.getElem?_eq_none (Nat.not_lt.1 hs)]
  unfold wpListIn
  rw [if_neg (by simp [Region.wanted, hy])]
  exact ⟨fun _ _ => trivial, k _ w U (hh.put hd _) hs⟩
theorem dd {p q : Prop} [Decidable p] [Decidable q] (h : p ↔ q) : decide p = decide q := decide_eq_decide.2 h
theorem dt {p : Prop} [Decidable p] (h : p) : true = decide p := (decide_eq_true h).symm
theorem df {p : Prop} [Decidable p] (h : ¬ p) : false = decide p := (decide_eq_false h).symm

theorem s_notD {d T : Nat} {x : Operand} {p : Prop} [Decidable p] (hd : Nat.blt d n = true) (hx : ev fr x = some (.bool (decide p))) (k : WpL P n D ops rest Q ((d, .bool (decide (¬ p))) :: fr) l) : WpL P n D ops (⟨some d, .unOp .not T x, ty, pos, aft, none⟩ :: rest) Q fr l :=
  s_not hd hx (by rw [← decide_not]; exact k)
class OneC (v : Value) : Prop where
  eq : v.cells = #[v]
instance {k : IntKind} {i : Int} : OneC (.int k i) := ⟨rfl⟩
instance {b : Bool} : OneC (.bool b) := ⟨rfl⟩
instance {s : ByteArray} : OneC (.string s) := ⟨rfl⟩
instance {a : Option Addr} {m c : Nat} : OneC (.slice a m c) := ⟨rfl⟩
instance {a : Option Addr} : OneC (.pointer a) := ⟨rfl⟩
instance {f : Go.Fn} {u v : Array Value} : OneC (.func f u v) := ⟨rfl⟩
instance : OneC .nilFunc := ⟨rfl⟩
instance : OneC .nilIface := ⟨rfl⟩
instance {r : Option Nat} : OneC (.map r) := ⟨rfl⟩
instance {r : Option Nat} : OneC (.chan r) := ⟨rfl⟩
instance {t : Nat} {v : Value} : OneC (.iface t v) := ⟨rfl⟩
class PlAt (pl : List (Nat × Nat)) (i : Nat) (off sz : outParam Nat) : Prop where
  eq : pl[i]? = some (off, sz)
instance {off sz : Nat} {pl : List (Nat × Nat)} : PlAt ((off, sz) :: pl) 0 off sz := ⟨rfl⟩
instance {p : Nat × Nat} {pl : List (Nat × Nat)} {i off sz : Nat} [h : PlAt pl i off sz] : PlAt (p :: pl) (i + 1) off sz := ⟨h.eq⟩
class SetSeg (zs : List Value) (off : Nat) (us : List Value) (cs : outParam (List Value)) : Prop where
  eq : ∃ pre post, zs = pre ++ post ∧ pre.length = off ∧ us.length ≤ post.length ∧ cs = pre ++ us ++ post.drop us.length
instance SetSeg.nil {zs : List Value} : SetSeg zs 0 [] zs := ⟨[], zs, rfl, rfl, by simp, by simp⟩
instance SetSeg.zero {z u : Value} {zs us cs : List Value} [h : SetSeg zs 0 us cs] : SetSeg (z :: zs) 0 (u :: us) (u :: cs) := ⟨by
  obtain ⟨pre, post, rfl, h2, h3, rfl⟩ := h.eq
  have : pre = [] := List.eq_nil_of_length_eq_zero h2
  subst this
  exact ⟨[], z :: post, rfl, rfl, by simpa using h3, by simp⟩⟩
instance SetSeg.succ {z : Value} {zs us cs : List Value} {o : Nat} [h : SetSeg zs o us cs] : SetSeg (z :: zs) (o + 1) us (z :: cs) := ⟨by
  obtain ⟨pre, post, rfl, rfl, h3, rfl⟩ := h.eq
  exact ⟨z :: pre, post, rfl, rfl, h3, rfl⟩⟩
class LenC (us : List Value) (k : Nat) : Prop where
  eq : us.length = k
instance : LenC [] 0 := ⟨rfl⟩
instance {u : Value} {us : List Value} {k : Nat} [h : LenC us k] : LenC (u :: us) (k + 1) := ⟨by simp [h.eq]⟩
theorem foldl_seg (us : List Value) : ∀ (pre post : List Value), us.length ≤ post.length →
    us.toArray.zipIdx.foldl (fun cs (c, j) => cs.setIfInBounds (pre.length + j) c) (pre ++ post).toArray = (pre ++ us ++ post.drop us.length).toArray := by
  intro pre post h
  have key : ∀ (us done post : List Value), us.length ≤ post.length → (us.zipIdx done.length).foldl (fun cs (c, j) => cs.setIfInBounds (pre.length + j) c) (pre ++ done ++ post).toArray = (pre ++ done ++ us ++ post.drop us.length).toArray := by
    intro us
    induction us with
    | nil => intro done post _; simp
    | cons u us ih =>
      intro done post hl
      cases post with
      | nil => simp at hl
      | cons p post =>
        have := ih (done ++ [u]) post (by simpa using hl)
        simp only [List.zipIdx_cons, List.foldl_cons]
        simp only [List.length_append, List.length_cons, List.length_nil, Nat.zero_add] at this
        have e : (pre ++ done ++ p :: post).toArray.setIfInBounds (pre.length + done.length) u = (pre ++ (done ++ [u]) ++ post).toArray := by
          simp
        rw [e, this]
        simp
  have := key us [] post h
  simp only [List.length_nil, List.append_nil] at this
  rw [← this, ← Array.foldl_toList]
  simp
class FillC (zs : List Value) (pl : List (Nat × Nat)) (vs : List (Nat × Value)) (cs : outParam (List Value)) : Prop where
  eq : Instr.fill (fun i => pl.toArray[i]?) zs.toArray vs = some cs.toArray
instance {zs : List Value} {pl : List (Nat × Nat)} : FillC zs pl [] zs := ⟨rfl⟩
instance {zs zs' cs : List Value} {pl : List (Nat × Nat)} {vs : List (Nat × Value)} {i off : Nat} {v : Value} [hv : OneC v] [hp : PlAt pl i off 1] [hs : SetNth zs off v zs'] [hf : FillC zs' pl vs cs] : FillC zs pl ((i, v) :: vs) cs := ⟨by
  have h := hf.eq
  have h2 := hs.eq
  rw [h2.1] at h
  simp only [Instr.fill, List.getElem?_toArray, hp.eq, hv.eq]
  rw [if_neg (by simp; omega)]
  simpa using h⟩
instance {zs zs' cs us : List Value} {pl : List (Nat × Nat)} {vs : List (Nat × Value)} {i off sz : Nat} [hp : PlAt pl i off sz] [hs : SetSeg zs off us zs'] [hn : LenC us sz] [hf : FillC zs' pl vs cs] : FillC zs pl ((i, .agg us.toArray) :: vs) cs := ⟨by
  have h := hf.eq
  obtain ⟨pre, post, rfl, rfl, hl, rfl⟩ := hs.eq
  simp only [Instr.fill, List.getElem?_toArray, hp.eq, Value.cells]
  have hz := hn.eq
  rw [if_neg (by simp; omega)]
  rw [foldl_seg us pre post hl]
  simpa using h⟩
class BldT (P : Program) (T : Nat) (zs : outParam (List Value)) (pl : outParam (List (Nat × Nat))) : Prop where
  eq : ∀ (vs : List (Nat × Value)), P.built T vs = Instr.fill (fun i => pl.toArray[i]?) zs.toArray vs
def evp (fr : Fr) : List (Nat × Operand) → Option (List (Nat × Value))
  | [] => some []
  | (i, x) :: xs => match ev fr x with
    | some v => match evp fr xs with
      | some vs => some ((i, v) :: vs)
      | none => none
    | none => none
theorem evp_map {a : Act} (hh : Holds n D a fr) : ∀ (xs : List (Nat × Operand)) (vs : List (Nat × Value)), evp fr xs = some vs → (xs.map fun p => (p.1, a.eval p.2)) = vs
  | [], vs, h => by simp [evp] at h; simp [h]
  | (i, x) :: xs, vs, h => by
    simp only [evp] at h
    cases hx : ev fr x with
    | none => rw [hx] at h; cases h
    | some v =>
      rw [hx] at h
      cases hr : evp fr xs with
      | none => simp [hr] at h
      | some us =>
        simp only [hr, Option.some.injEq] at h
        rw [List.map_cons, hh.ev hx, evp_map hh xs us hr, h]
theorem s_bd {d T : Nat} {zs cs : List Value} {pl : List (Nat × Nat)} {os : List (Nat × Operand)} {vs : List (Nat × Value)} (hd : Nat.blt d n = true) [hT : BldT P T zs pl] (hv : evp fr os = some vs) [hc : FillC zs pl vs cs]
    (k : WpL P n D ops rest Q ((d, .agg cs.toArray) :: fr) l) : WpL P n D ops (⟨some d, .build T os.toArray, ty, pos, aft, none⟩ :: rest) Q fr l :=
  WpL.val hd (fun a w U hh hs => by
    have e : ((os.toArray.map fun (i, x) => (i, a.eval x)) : Array (Nat × Value)).toList = vs := by simpa using evp_map hh os vs hv
    have h := run_build w T (os.toArray.map fun (i, x) => (i, a.eval x)) cs.toArray (by rw [e, hT.eq, hc.eq])
    simp only [execOp, Sem.run_bind, h]
    simp) k
theorem s_lenl {d t e sz by_ c m : Nat} {z : Value} {x : Operand} {a : Option Addr} (hd : Nat.blt d n = true) [ht : SlT P t e sz by_ z] (hx : ev fr x = some (.slice a m c)) (k : WpL P n D ops rest Q ((d, .int .i64 (m : Int)) :: fr) l) :
    WpL P n D ops (⟨some d, .call ⟨.builtin .len, #[x], #[t]⟩, ty, pos, aft, none⟩ :: rest) Q fr l :=
  WpL.val hd (fun A w _ hh _ => by simp [execOp, resolve, invoke, builtin, Builtin.len_, hh.ev hx, run_underlying ht.hu, goInt]) k
theorem s_lens {d t : Nat} {x : Operand} {s : ByteArray} (hd : Nat.blt d n = true) (ht : P.underlying t = some .string) (hx : ev fr x = some (.string s)) (k : WpL P n D ops rest Q ((d, .int .i64 (s.size : Int)) :: fr) l) :
    WpL P n D ops (⟨some d, .call ⟨.builtin .len, #[x], #[t]⟩, ty, pos, aft, none⟩ :: rest) Q fr l :=
  WpL.val hd (fun A w _ hh _ => by simp [execOp, resolve, invoke, builtin, Builtin.len_, hh.ev hx, run_underlying ht, goInt]) k
theorem s_max2 {d : Nat} {at_ : Array Nat} {x y : Operand} {kk : IntKind} {i j : Int} (hd : Nat.blt d n = true) (hx : ev fr x = some (.int kk i)) (hy : ev fr y = some (.int kk j)) (k : WpL P n D ops rest Q ((d, .int kk (max i j)) :: fr) l) :
    WpL P n D ops (⟨some d, .call ⟨.builtin .max, #[x, y], at_⟩, ty, pos, aft, none⟩ :: rest) Q fr l :=
  WpL.val hd (fun A w _ hh _ => by
    simp [execOp, resolve, invoke, builtin, Builtin.max_, Builtin.max2, hh.ev hx, hh.ev hy]
    omega) k
theorem s_min2 {d : Nat} {at_ : Array Nat} {x y : Operand} {kk : IntKind} {i j : Int} (hd : Nat.blt d n = true) (hx : ev fr x = some (.int kk i)) (hy : ev fr y = some (.int kk j)) (k : WpL P n D ops rest Q ((d, .int kk (min i j)) :: fr) l) :
    WpL P n D ops (⟨some d, .call ⟨.builtin .min, #[x, y], at_⟩, ty, pos, aft, none⟩ :: rest) Q fr l :=
  WpL.val hd (fun A w _ hh _ => by
    simp [execOp, resolve, invoke, builtin, Builtin.min_, Builtin.min2, hh.ev hx, hh.ev hy]
    omega) k
theorem s_ixs {d T : Nat} {x y : Operand} {s : ByteArray} {kk : IntKind} {i : Int} (hd : Nat.blt d n = true) (hT : P.underlying T = some .string) (hx : ev fr x = some (.string s)) (hy : ev fr y = some (.int kk i)) (h0 : 0 ≤ i) (h1 : i.toNat < s.size)
    (k : WpL P n D ops rest Q ((d, .int .u8 ((s[i.toNat]'h1).toNat : Int)) :: fr) l) : WpL P n D ops (⟨some d, .index T x y, ty, pos, aft, none⟩ :: rest) Q fr l :=
  WpL.val hd (fun A w _ hh _ => by
    have e : s[i.toNat]? = some (s[i.toNat]'h1) := by simp [h1]
    simp [execOp, Instr.index, hh.ev hx, hh.ev hy, asIntOf, run_underlying hT, h0, e]) k

/-! literals of slices: one cell an element -/
theorem run_bs {t e by_ : Nat} {z : Value} [ht : SlT P t e 1 by_ z] (hz : z.cells.size = 1) (vs : List Value) (hv : ∀ v ∈ vs, v.cells = #[v]) (parts : Array (Nat × Value)) (hp : parts.toList = (vs.zipIdx).map (fun (v, i) => (i, v))) (hn : vs.length ≤ 1000) (w : World) :
    (Instr.buildSlice t vs.length parts).run P w = .ok (.slice (some ⟨w.heap.size, 0, none⟩) vs.length vs.length) (w.alloc (.cells vs.toArray e)) := by
  obtain ⟨i0, hi, hz0, hz1, hz2⟩ := info_parts ht.hi
  have hfill : ∀ (pre vs cells : List Value), (∀ v ∈ vs, v.cells = #[v]) → cells.length = vs.length →
      Instr.fill (fun i => some (i * 1, 1)) (pre ++ cells).toArray ((vs.zipIdx pre.length).map fun (v, i) => (i, v)) = some (pre ++ vs).toArray := by
    intro pre vs
    induction vs generalizing pre with
    | nil => intro cells _ hl; have : cells = [] := List.eq_nil_of_length_eq_zero (by simpa using hl); subst this; simp [Instr.fill]
    | cons v vs ih =>
      intro cells hv hl
      cases cells with
      | nil => simp at hl
      | cons c cells =>
        have hvc := hv v (by simp)
        have := ih (pre ++ [v]) cells (fun u hu => hv u (by simp [hu])) (by simpa using hl)
        simp only [List.zipIdx_cons, List.map_cons, Instr.fill, hvc]
        simp only [List.append_assoc, List.cons_append, List.nil_append, List.length_append, List.length_cons, List.length_nil] at this
        simpa using this
  have hs : ((Array.range (vs.length * 1)).map (z.cells[· % z.cells.size]!)) = (List.replicate vs.length (z.cells[0]!)).toArray := by
    apply Array.ext'
    simp [hz, Nat.mod_one, List.map_const']
  have h1 := hfill [] vs (List.replicate vs.length (z.cells[0]!)) hv (by simp)
  simp only [List.nil_append, List.length_nil] at h1
  simp only [Instr.buildSlice, Sem.run_bind, run_underlying ht.hu, Result.andThen_ok, sizeOf, typeInfo, run_program, hi, Sem.run_pure, hz1, zeroValue]
  rw [if_neg (by omega)]
  by_cases h0 : vs.length * 1 = 0
  · have : vs = [] := List.eq_nil_of_length_eq_zero (by simpa using h0)
    subst this
    have hpp : parts.toList = [] := by simpa using hp
    simp [hpp, Instr.fill, newRow, Array.range]
  · rw [if_neg h0]
    simp only [Sem.run_bind, Sem.run_pure, Result.andThen_ok, run_program, hi, hz0]
    rw [hp, hs, h1]
    simp [newRow]
theorem s_bs {d t e by_ m : Nat} {z : Value} {os : List (Nat × Operand)} (vs : List Value) (hd : Nat.blt d n = true) [ht : SlT P t e 1 by_ z] (hz : z.cells.size = 1) (hm : vs.length = m) (hv : ∀ v ∈ vs, v.cells = #[v]) (hn : vs.length ≤ 1000)
    (hp : ∀ a, Holds n D a fr → (os.map fun p => (p.1, a.eval p.2)) = (vs.zipIdx).map (fun (v, i) => (i, v)))
    (k : ∀ g, WpL P n D ops rest Q ((d, .slice (some ⟨g, 0, none⟩) m m) :: fr) (blk g vs e :: l)) : WpL P n D ops (⟨some d, .buildSlice t m os.toArray, ty, pos, aft, none⟩ :: rest) Q fr l := by
  subst hm
  refine WpL.valx hd (fun g => .slice (some ⟨g, 0, none⟩) vs.length vs.length) (fun g => blk g vs e :: l) (fun a w U hh hs => ⟨w.heap.size, _, ?_, out_alloc hs vs e⟩) k
  have := run_bs (P := P) (t := t) hz vs hv (os.map fun p => (p.1, a.eval p.2)).toArray (by simpa using hp a hh) hn w
  simp only [execOp, Sem.run_bind]
  rw [show ((os.toArray.map fun (i, x) => (i, a.eval x)) : Array (Nat × Value)) = (os.map fun p => (p.1, a.eval p.2)).toArray from by simp, this]
  simp
theorem s_bs1 {d t e by_ : Nat} {z v : Value} {x : Operand} (hd : Nat.blt d n = true) [ht : SlT P t e 1 by_ z] (hx : ev fr x = some v) (hz : z.cells.size = 1) (hv : v.cells = #[v])
    (k : ∀ g, WpL P n D ops rest Q ((d, .slice (some ⟨g, 0, none⟩) 1 1) :: fr) (blk g [v] e :: l)) : WpL P n D ops (⟨some d, .buildSlice t 1 #[(0, x)], ty, pos, aft, none⟩ :: rest) Q fr l :=
  s_bs (os := [(0, x)]) [v] hd hz rfl (by simpa using hv) (by simp) (fun a hh => by simp [hh.ev hx]) k

theorem s_bs2 {d t e by_ : Nat} {z v v2 : Value} {x x2 : Operand} (hd : Nat.blt d n = true) [ht : SlT P t e 1 by_ z] (hx : ev fr x = some v) (hx2 : ev fr x2 = some v2) (hz : z.cells.size = 1) (hv : v.cells = #[v]) (hv2 : v2.cells = #[v2])
    (k : ∀ g, WpL P n D ops rest Q ((d, .slice (some ⟨g, 0, none⟩) 2 2) :: fr) (blk g [v, v2] e :: l)) : WpL P n D ops (⟨some d, .buildSlice t 2 #[(0, x), (1, x2)], ty, pos, aft, none⟩ :: rest) Q fr l :=
  s_bs (os := [(0, x), (1, x2)]) [v, v2] hd hz rfl (by simp [hv, hv2]) (by simp) (fun a hh => by simp [hh.ev hx, hh.ev hx2]) k
theorem s_bs3 {d t e by_ : Nat} {z v v2 v3 : Value} {x x2 x3 : Operand} (hd : Nat.blt d n = true) [ht : SlT P t e 1 by_ z] (hx : ev fr x = some v) (hx2 : ev fr x2 = some v2) (hx3 : ev fr x3 = some v3) (hz : z.cells.size = 1) (hv : v.cells = #[v]) (hv2 : v2.cells = #[v2]) (hv3 : v3.cells = #[v3])
    (k : ∀ g, WpL P n D ops rest Q ((d, .slice (some ⟨g, 0, none⟩) 3 3) :: fr) (blk g [v, v2, v3] e :: l)) : WpL P n D ops (⟨some d, .buildSlice t 3 #[(0, x), (1, x2), (2, x3)], ty, pos, aft, none⟩ :: rest) Q fr l :=
  s_bs (os := [(0, x), (1, x2), (2, x3)]) [v, v2, v3] hd hz rfl (by simp [hv, hv2, hv3]) (by simp) (fun a hh => by simp [hh.ev hx, hh.ev hx2, hh.ev hx3]) k
theorem fill_arr (len : Nat) : ∀ (vs : List (Nat × Value)) (cs : Array Value), cs.size = len → Instr.fill (fun i => some (i * 1, 1)) cs vs = Instr.fill (fun i => ((List.range len).map fun i => (i, 1)).toArray[i]?) cs vs
  | [], _, _ => rfl
  | (i, v) :: vs, cs, h => by
    simp only [Instr.fill, Nat.mul_one, List.getElem?_toArray, List.getElem?_map]
    by_cases hi : i < len
    · rw [List.getElem?_range hi]
      simp only [Option.map_some]
      split
      · rfl
      · rename_i hc
        have ih := fill_arr len vs (v.cells.zipIdx.foldl (fun cs (c, j) => cs.setIfInBounds (i + j) c) cs) (by
          rw [← h]
          have key : ∀ (ls : List (Value × Nat)) (cs : Array Value), (ls.foldl (fun cs (c, j) => cs.setIfInBounds (i + j) c) cs).size = cs.size := by
            intro ls
            induction ls with
            | nil => intro cs; rfl
            | cons p ls ihh => intro cs; simp only [List.foldl_cons]; rw [ihh]; simp
          rw [← Array.foldl_toList]
          exact key _ _)
        simp only [Nat.mul_one, List.getElem?_toArray, List.getElem?_map] at ih
        exact ih
    · rw [List.getElem?_eq_none (by simp; omega)]
      simp only [Option.map_none]
      rw [if_pos]
      simp only [Bool.or_eq_true, decide_eq_true_eq]
      by_cases hs : v.cells.size = 1
      · right; omega
      · left; exact hs

/-! append: to a row of one's own -/
theorem own_form {w : World} {S : Nat → Prop} {T s c m : Nat} {a : Option Addr} {xs : List Value} (h : (own T s a c m xs).p w S) : (a = none ∧ c = 0 ∧ m = 0 ∧ xs = []) ∨ ∃ g cur, a = some ⟨g, 0, none⟩ ∧ w.heap[g]? = some (.cells cur T (0, 0)) ∧ m ≤ c ∧ cur.size = c * s ∧ cur.toList.take (m * s) = xs ∧ xs.length = m * s := by
  rcases h.2.2 with ⟨e, rfl⟩ | ⟨g, cap, cur, e, _, hg, h1, _, h2, h3⟩
  · injection e with e1 e2 e3
    subst e1; subst e3
    have := h.2.1
    exact .inl ⟨rfl, rfl, rfl, List.eq_nil_of_length_eq_zero (by simpa using this)⟩
  · injection e with e1 e2 e3
    subst e1; subst e3
    exact .inr ⟨g, cur, rfl, hg, h1, h2, h3, h.2.1⟩
theorem slice_of_own {w : World} {T s m : Nat} {v : Value} {xs : List Value} {base : Nat} (h : w.ownsRow base T s v m xs) : ∃ a c, v = .slice a m c := by
  rcases h.2 with ⟨rfl, rfl⟩ | ⟨g, cap, cur, rfl, _⟩
  · exact ⟨_, _, rfl⟩
  · exact ⟨_, _, rfl⟩
/-- Cells appended to a row of one's own. -/
theorem out_append {w : World} {U : Nat → Prop} {F : List HP} {t ty e s by_ : Nat} {z : Value} [ht : SlT P t e s by_ z] (hz : z.cells.size = s) (hs0 : 0 < s) {a : Option Addr} {c m : Nat} {xs : List Value} (h : Sat w (own e s a c m xs :: F) U)
    (ad : Addr) (q c2 : Nat) (news : List Value) (hl : news.length = q * s) (hn : ∀ j u, news[j]? = some u → w.cell? (ad.add j) = some u) (h1 : ∀ u ∈ news, u.oneCell' = true) (hb : (m + q) * by_ ≤ 140737488355328) (hm : m + q ≤ 140737488355328) :
    ∃ a' c' w', (Builtin.append_ #[t, t] ty #[.slice a m c, .slice (some ad) q c2]).run P w = .ok (.slice a' (m + q) c') w' ∧ Out (own e s a' c' (m + q) (xs ++ news) :: F) U w w' := by
  obtain ⟨V, ⟨S, ⟨hS, hown⟩, hSV, _⟩, hfr⟩ := Out.frame (pre := [own e s a c m xs]) (F := F) h
  obtain ⟨i0, hi, hz0, hz1, hz2⟩ := info_parts ht.hi
  obtain ⟨v', w', hr, hown', hg, _, hat⟩ := run_append_own_at (P := P) w 0 t ty e i0 z s by_ ht.hu hi hz0 hz1 hz2 hz hs0 _ m xs hown ad q c2 news hl hn h1 (by unfold maxLen; omega) hb (Nat.zero_le _)
  obtain ⟨a', c', rfl⟩ := slice_of_own hown'
  have hob : ∀ b, some b = (Value.slice a m c).ownBlock → V b := by
    intro b e
    refine hSV b ((hS b).2 ?_)
    cases a with
    | none => simp [Value.ownBlock] at e
    | some ad0 => simp [Value.ownBlock] at e; exact ⟨ad0, rfl, e⟩
  refine ⟨a', c', w', hr, hfr [own e s a' c' (m + q) (xs ++ news)] w' ⟨⟨fun b => ∃ ad, a' = some ad ∧ b = ad.block, ⟨fun _ => Iff.rfl, hown'⟩, ?_, trivial⟩, hg.os, hg.tape, hg.output, hg.size, ?_⟩⟩
  · rintro b ⟨ad', rfl, rfl⟩
    rcases hat with hat | hat
    · exact .inl (hob _ hat)
    · simp only [Value.ownBlock, Option.some.injEq] at hat
      exact .inr (Nat.le_of_eq hat.symm)
  · exact fun b hb' hnV => hg.block b hb' fun e => hnV (hob b e)
theorem s_app1 {d t e s by_ : Nat} {z : Value} {x y : Operand} {a : Option Addr} {c m g2 q c2 T2 : Nat} {xs news : List Value} {F : List HP} (hd : Nat.blt d n = true) [ht : SlT P t e s by_ z] (hx : ev fr x = some (.slice a m c)) (hy : ev fr y = some (.slice (some ⟨g2, 0, none⟩) q c2))
    (htk : Take l [own e s a c m xs, blk g2 news T2] F) (hz : z.cells.size = s) (hs : Nat.blt 0 s = true) (hl : news.length = q * s) (h1 : news.all Value.oneCell' = true) (hb : (m + q) * by_ ≤ 140737488355328) (hm : m + q ≤ 140737488355328)
    (k : ∀ a' c', WpL P n D ops rest Q ((d, .slice a' (m + q) c') :: fr) (own e s a' c' (m + q) (xs ++ news) :: F)) : WpL P n D ops (⟨some d, .call ⟨.builtin .append, #[x, y], #[t, t]⟩, ty, pos, aft, none⟩ :: rest) Q fr l := by
  refine WpL.valx (σ := Option Addr × Nat) hd (fun p => .slice p.1 (m + q) p.2) (fun p => own e s p.1 p.2 (m + q) (xs ++ news) :: F) (fun A w U hh hs' => ?_) (fun p => k p.1 p.2)
  have h2 := htk.ent w U hs'
  have hg2 : w.heap[g2]? = some (.cells news.toArray T2 (0, 0)) := by
    obtain ⟨_, _, _, S, hp, _⟩ := h2
    exact hp.2
  obtain ⟨a', c', w', hr, ho⟩ := out_append (P := P) (t := t) (ty := ty) hz (Eq.mp Nat.blt_eq hs) h2 ⟨g2, 0, none⟩ q c2 news hl (fun j u hu => by rw [add0, cell_of_row w g2 _ _ _ _ hg2]; simpa using hu) (fun u hu => List.all_eq_true.1 h1 u hu) hb hm
  refine ⟨(a', c'), w', ?_, ho.ent (Ent.cons (Ent.drop (Ent.refl _)))⟩
  simp [execOp, resolve, invoke, builtin, hh.ev hx, hh.ev hy, hr]
theorem own_cells {w : World} {S : Nat → Prop} {T s c m : Nat} {a : Option Addr} {xs : List Value} (h : (own T s a c m xs).p w S) {ad : Addr} (ha : a = some ad) (j : Nat) (u : Value) (hu : xs[j]? = some u) : w.cell? (ad.add j) = some u := by
  rcases own_form h with ⟨e, _⟩ | ⟨g, cur, e, hg, _, _, h3, _⟩
  · rw [e] at ha; cases ha
  · rw [e] at ha
    injection ha with ha
    subst ha
    rw [add0, cell_of_row w g _ _ _ _ hg]
    rw [← h3, List.getElem?_take] at hu
    split at hu
    · simpa using hu
    · cases hu
/-- append(s, t...), t a row of one's own. -/
theorem s_appo {d t e s by_ : Nat} {z : Value} {x y : Operand} {a a2 : Option Addr} {c m c2 m2 : Nat} {xs ys : List Value} {F : List HP} (hd : Nat.blt d n = true) [ht : SlT P t e s by_ z] (hx : ev fr x = some (.slice a m c)) (hy : ev fr y = some (.slice a2 m2 c2))
    (htk : Take l [own e s a c m xs, own e s a2 c2 m2 ys] F) (hz : z.cells.size = s) (hs : Nat.blt 0 s = true) (h1 : ∀ u ∈ ys, u.oneCell' = true) (hb : (m + m2) * by_ ≤ 140737488355328) (hm : m + m2 ≤ 140737488355328)
    (k : ∀ a' c', WpL P n D ops rest Q ((d, .slice a' (m + m2) c') :: fr) (own e s a' c' (m + m2) (xs ++ ys) :: own e s a2 c2 m2 ys :: F)) : WpL P n D ops (⟨some d, .call ⟨.builtin .append, #[x, y], #[t, t]⟩, ty, pos, aft, none⟩ :: rest) Q fr l := by
  refine WpL.valx (σ := Option Addr × Nat) hd (fun p => .slice p.1 (m + m2) p.2) (fun p => own e s p.1 p.2 (m + m2) (xs ++ ys) :: own e s a2 c2 m2 ys :: F) (fun A w U hh hs' => ?_) (fun p => k p.1 p.2)
  have h2 := htk.ent w U hs'
  have h2' := h2
  obtain ⟨S1, hp1, _, S2, hp2, _⟩ := h2'
  have hl2 := hp2.2.1
  cases a2 with
  | none =>
    rcases own_form hp2 with ⟨_, rfl, rfl, rfl⟩ | ⟨_, _, e0, _⟩
    · refine ⟨(a, c), w, ?_, (Out.refl h2).ent ?_⟩
      · obtain ⟨i0, hi, hz0, hz1, hz2⟩ := info_parts ht.hi
        have hle : m ≤ c := by rcases own_form hp1 with ⟨_, h, h', _⟩ | ⟨_, _, _, _, h, _⟩ <;> omega
        simp [execOp, resolve, invoke, builtin, hh.ev hx, hh.ev hy, Builtin.append_, run_underlying ht.hu, sizeOf, typeInfo, hi, Builtin.lenOf, hle, Builtin.firstCells, storeCells]
        cases a <;> simp
      · simp only [Nat.add_zero, List.append_nil]; exact Ent.refl _
    · cases e0
  | some ad =>
    obtain ⟨a', c', w', hr, ho⟩ := out_append (P := P) (t := t) (ty := ty) hz (Eq.mp Nat.blt_eq hs) h2 ad m2 c2 ys hl2 (fun j u hu => own_cells hp2 rfl j u hu) h1 hb hm
    exact ⟨(a', c'), w', by simp [execOp, resolve, invoke, builtin, hh.ev hx, hh.ev hy, hr], ho⟩
/-- A struct stored whole into a variable of its own. -/
theorem sat_row {w : World} {U : Nat → Prop} {g : Nat} {cs ds : List Value} {T : Nat} {F : List HP} (h : Sat w (blk g cs T :: F) U) : Out (blk g ds T :: F) U w (w.setRow g ds.toArray) := by
  obtain ⟨V, ⟨S, ⟨hS, hg⟩, hSV, _⟩, hfr⟩ := Out.frame (pre := [blk g cs T]) (F := F) h
  refine hfr [blk g ds T] _ ⟨⟨S, ⟨hS, setRow_heap w g _ _ T _ hg⟩, fun b hb => .inl (hSV b hb), trivial⟩, rfl, rfl, rfl, by simp, fun b hb hn => ?_⟩
  exact setRow_other w g b _ (fun e => hn (hSV b ((hS b).2 e)))
theorem s_sta {T g : Nat} {x y : Operand} {cs vs : List Value} {T2 kk : Nat} {l' : List HP} [hT : AggT P T kk] (hx : ev fr x = some (.pointer (some ⟨g, 0, none⟩))) (hy : ev fr y = some (.agg vs.toArray)) (hn : vs.length = kk)
    [hb : HasBlk l g cs T2] [hsb : SetBlk l g vs l'] (hc : cs.length = kk) (h1 : vs.all Value.oneCell' = true) (k : WpL P n D ops rest Q fr l') : WpL P n D ops (⟨none, .store T x y, ty, pos, aft, none⟩ :: rest) Q fr l := by
  refine WpL.skp (m := l') (fun a w U hh hs => ?_) k
  obtain ⟨m, ds, T3, ht, he, _⟩ := hsb.take
  have hs2 := ht.ent w U hs
  have hg1 := hb.sat hs
  have hg2 : w.heap[g]? = some (.cells ds.toArray T3 (0, 0)) := by obtain ⟨S, hp, _⟩ := hs2; exact hp.2
  refine ⟨w.setRow g vs.toArray, ?_, (sat_row hs2).ent he⟩
  have hst := run_storeCells_at P g 0 T2 vs 0 cs.toArray w hg1 (by simp; omega) (fun v hv => List.all_eq_true.1 h1 v hv)
  simp only [Nat.zero_add, List.take_zero, List.nil_append] at hst
  have hdrop : cs.toArray.toList.drop vs.length = [] := by simp; omega
  rw [hdrop, List.append_nil] at hst
  simp [execOp, hh.ev hx, hh.ev hy, Instr.storeAt, Instr.sureAddr, storeVar, Value.cells, hT.size, hn, hst]
theorem RetQ.cell {fn : Func} {t T g k : Nat} {cs : List Value} {T2 : Nat} [hT : AggT P T k] (h : fn.results = #[.cell t T]) (hv : lk fr t = some (.pointer (some ⟨g, 0, none⟩))) [hb : HasBlk l g cs T2] (hc : cs.length = k) : Res P fn fr l (.agg cs.toArray) := fun _ _ a w _ hh hs => by
  have e : (results fn a.tmps).run P w = ((asAddr (a.tmps.getD t undef)).run P w).andThen fun ad w1 => (loadVar T ad).run P w1 := by
    simp only [results, h]
    simp [Result.andThen]
  have hl := run_loadCells_list (P := P) w ⟨g, 0, none⟩ cs (fun j v hj => by rw [add0, cell_of_row w g _ _ _ _ (hb.sat hs)]; simpa using hj)
  rw [hc] at hl
  rw [e, hh.2.2 _ _ hv]
  simp [asAddr, loadVar, hT.agg, hT.size, hl]
theorem RetQ.cell2 {fn : Func} {t T u g k : Nat} {cs : List Value} {T2 : Nat} {x : Value} [hT : AggT P T k] (h : fn.results = #[.cell t T, .tmp u]) (hv : lk fr t = some (.pointer (some ⟨g, 0, none⟩))) [hb : HasBlk l g cs T2] (hc : cs.length = k) (hx : lk fr u = some x) : Res P fn fr l (.tuple #[.agg cs.toArray, x]) := fun _ _ a w _ hh hs => by
  have hl := run_loadCells_list (P := P) w ⟨g, 0, none⟩ cs (fun j v hj => by rw [add0, cell_of_row w g _ _ _ _ (hb.sat hs)]; simpa using hj)
  rw [hc] at hl
  have e1 := hh.2.2 _ _ hv
  have e2 := hh.2.2 _ _ hx
  simp only [Array.getD_eq_getD_getElem?] at e1 e2
  simp [results, h, e1, e2, asAddr, loadVar, hT.agg, hT.size, hl]
end
end Go.Proofs.Ytpoahaadnbdgcaa
