/- Walks and plain laws, a part of the proof of PnmJoins: every input that the law's guards let in, no condition beside. -/
import Derived.KernelRfl
import Derived.OrdersIn
import Derived.Test.YtggamdlpiejbiaaGreatM02
namespace Go.Proofs.YtggamdlpiejbiaaGreat
open Go.RowKit Go.Shelf

def RdsL (As : List HP) (a : Option Addr) (xs : List Value) : Prop := ∀ (w : World) (U : Nat → Prop), Sat w As U → (xs ≠ [] → a.isSome = true) ∧ ∀ ad, a = some ad → ∀ (j : Nat) (u : Value), xs[j]? = some u → w.cell? (ad.add j) = some u
theorem RdsL.nil {As : List HP} {a : Option Addr} : RdsL As a [] := fun _ _ _ => ⟨fun h => absurd rfl h, fun _ _ j u h => by simp at h⟩
theorem QE {T s c m : Nat} {a : Option Addr} {xs : List Value} : RdsL [QG T s a c m xs] a xs := by
  rintro w U ⟨S, hp, _⟩
  refine ⟨fun hne => ?_, fun ad ha j u hu => Y9 hp ha j u hu⟩
  rcases XM hp with ⟨_, _, _, rfl⟩ | ⟨g, _, rfl, _⟩
  · exact absurd rfl hne
  · rfl
theorem RdsL.blk {g T o : Nat} {cs xs : List Value} (h : (cs.drop o).take xs.length = xs) : RdsL [QA g cs T] (some ⟨g, o, none⟩) xs := by
  rintro w U ⟨S, ⟨_, hg⟩, _⟩
  refine ⟨fun _ => rfl, fun ad ha j u hu => ?_⟩
  cases ha
  rw [ZY, cell_of_row w g _ _ _ _ hg]
  simpa using drop_at cs xs o h j u hu
theorem RdsL.ent {As Bs : List HP} {a : Option Addr} {xs : List Value} (h : RdsL As a xs) (he : Ent Bs As) : RdsL Bs a xs := fun w U hs => h w U (he w U hs)
theorem RdsL.head {A : HP} {As : List HP} {a : Option Addr} {xs : List Value} (h : RdsL [A] a xs) : RdsL (A :: As) a xs := fun w _ ⟨S, x, _, _⟩ => h w S ⟨S, x, fun _ z => z, trivial⟩
theorem RdsL.tail {A : HP} {As : List HP} {a : Option Addr} {xs : List Value} (h : RdsL As a xs) : RdsL (A :: As) a xs := fun w U x => h w U x.tail
theorem RdsL.take {As : List HP} {a : Option Addr} {xs : List Value} (h : RdsL As a xs) (k : Nat) : RdsL As a (xs.take k) := fun w U hs => by
  obtain ⟨h1, h2⟩ := h w U hs
  refine ⟨fun hne => h1 fun e => hne (by simp [e]), fun ad ha j u hu => h2 ad ha j u ?_⟩
  rw [List.getElem?_take] at hu
  split at hu
  · exact hu
  · cases hu

section
variable {P : Program} {n : Cx} {D : List Deferred} {ops : Array Oper} {rest : List Oper} {Q : Post} {fr : Fr} {l m : List HP} {ty : Nat} {pos : String} {aft : Array Edge}

/-- The address of a slice's element: one cell each. -/
theorem Q4 {d t e by_ c N : Nat} {z : Value} {x y : Operand} {a : Option Addr} {kk : IntKind} {i : Int} {As : List HP} {xs : List Value} (k : Nat) (hd : Nat.blt d n = true) [ht : SlT P t e 1 by_ z] (hx : ev fr x = some (.slice a N c)) (hy : ev fr y = some (.int kk i))
    (hA : RdsL As a xs) (he : Ent l As) (hi : i = (k : Int)) (hN : k < N) (hk : k < xs.length) (kn : WpL P n D ops rest Q ((d, .pointer (a.map fun ad => ad.add k)) :: fr) l) :
    WpL P n D ops (⟨some d, .indexAddr t x y, ty, pos, aft, none⟩ :: rest) Q fr l :=
  WpL.val hd (fun A w U hh hs => by
    obtain ⟨h1, _⟩ := hA w U (he w U hs)
    have hne : xs ≠ [] := fun e => by simp [e] at hk
    obtain ⟨i0, hi0, hz0, hz1, hz2⟩ := info_parts ht.hi
    cases a with
    | none => exact absurd (h1 hne) (by simp)
    | some ad =>
      subst hi
      simp [execOp, Instr.indexAt, hh.ev hx, hh.ev hy, asIntOf, run_underlying ht.hu, sizeOf, typeInfo, hi0, hz1]
      omega) kn
/-- What is read there. -/
theorem Q5 {d T k : Nat} {x : Operand} {a : Option Addr} {As : List HP} {xs : List Value} {v : Value} (hd : Nat.blt d n = true) [hT : Scal P T] (hx : ev fr x = some (.pointer (a.map fun ad => ad.add k))) (hA : RdsL As a xs) (he : Ent l As) (hv : xs[k]? = some v)
    (kn : WpL P n D ops rest Q ((d, v) :: fr) l) : WpL P n D ops (⟨some d, .load T x, ty, pos, aft, none⟩ :: rest) Q fr l :=
  WpL.val hd (fun A w U hh hs => by
    obtain ⟨h1, h2⟩ := hA w U (he w U hs)
    have hne : xs ≠ [] := fun e => by simp [e] at hv
    cases a with
    | none => exact absurd (h1 hne) (by simp)
    | some ad =>
      have hc := h2 ad rfl k v hv
      have hx' := hh.ev hx
      simp only [Option.map_some] at hx'
      simp [execOp, hx', Instr.loadAt, Instr.sureAddr, loadVar, hT.agg, run_load, hc]) kn

class ArT (P : Program) (T : Nat) (len e : outParam Nat) : Prop where
  hu : P.underlying T = some (.array len e)
  hs : ∀ w, (sizeOf e).run P w = .ok 1 w
theorem s_ixar {d T g o i len e o2 : Nat} {kk : IntKind} {x y : Operand} (hd : Nat.blt d n = true) [hT : ArT P T len e] (hx : ev fr x = some (.pointer (some ⟨g, o, none⟩))) (hy : ev fr y = some (.int kk (i : Int))) (hi : Nat.blt i len = true) (ho : o + i = o2)
    (k : WpL P n D ops rest Q ((d, .pointer (some ⟨g, o2, none⟩)) :: fr) l) : WpL P n D ops (⟨some d, .indexAddr T x y, ty, pos, aft, none⟩ :: rest) Q fr l :=
  WpL.val hd (fun A w U hh hs => by
    have := Eq.mp Nat.blt_eq hi
    simp [execOp, Instr.indexAt, hh.ev hx, hh.ev hy, asIntOf, run_underlying hT.hu, Instr.sureAddr, hT.hs, ZY, ho]
    omega) k
theorem s_slar {d T g o len e : Nat} {x : Operand} (hd : Nat.blt d n = true) [hT : ArT P T len e] (hx : ev fr x = some (.pointer (some ⟨g, o, none⟩))) (hl : Nat.blt 0 len = true)
    (k : WpL P n D ops rest Q ((d, .slice (some ⟨g, o, none⟩) len len) :: fr) l) : WpL P n D ops (⟨some d, .slice T x none none none, ty, pos, aft, none⟩ :: rest) Q fr l :=
  WpL.val hd (fun A w U hh hs => by
    have h0 := Eq.mp Nat.blt_eq hl
    simp [execOp, Instr.sliceAt, hh.ev hx, run_underlying hT.hu, Instr.sureAddr, Instr.sliceBounds, hT.hs, ZY]) k
theorem s_slar2 {d T g o len e i o2 : Nat} {kk : IntKind} {x y : Operand} (hd : Nat.blt d n = true) [hT : ArT P T len e] (hx : ev fr x = some (.pointer (some ⟨g, o, none⟩))) (hy : ev fr y = some (.int kk (i : Int))) (hl : Nat.blt i len = true) (ho : o + i = o2)
    (k : WpL P n D ops rest Q ((d, .slice (some ⟨g, o2, none⟩) (len - i) (len - i)) :: fr) l) : WpL P n D ops (⟨some d, .slice T x (some y) none none, ty, pos, aft, none⟩ :: rest) Q fr l :=
  WpL.val hd (fun A w U hh hs => by
    have h0 := Eq.mp Nat.blt_eq hl
    have h2 : ¬ len = i := by omega
    simp [execOp, Instr.sliceAt, hh.ev hx, hh.ev hy, run_underlying hT.hu, Instr.sureAddr, Instr.sliceBounds, Instr.sliceBound, asIntOf, hT.hs, h2, ZY, ho]
    omega) k

theorem s_shr {d T T2 : Nat} {x y : Operand} {kk k2 : IntKind} {i j : Int} (q : Int) (hd : Nat.blt d n = true) (hx : ev fr x = some (.int kk i)) (hy : ev fr y = some (.int k2 j)) (hj : 0 ≤ j ∧ j ≤ kk.bits ∧ (2 : Int) ^ j.toNat = q) (hq : 0 < q)
    (k : WpL P n D ops rest Q ((d, .int kk (i / q)) :: fr) l) : WpL P n D ops (⟨some d, .binOp .shr T x y T2, ty, pos, aft, none⟩ :: rest) Q fr l :=
  WpL.val hd (fun a w _ hh _ => by
    obtain ⟨h1, h2, h3⟩ := hj
    have hm : min j.toNat kk.bits = j.toNat := by omega
    simp [execOp, hh.ev hx, hh.ev hy, eqGuard, binOp, Op.shift, Int.not_lt.2 h1, hm, h3, Int.fdiv_eq_ediv_of_nonneg _ (Int.le_of_lt hq)]) k
theorem s_shl {d T T2 : Nat} {x y : Operand} {kk k2 : IntKind} {i j : Int} (q : Int) (hd : Nat.blt d n = true) (hx : ev fr x = some (.int kk i)) (hy : ev fr y = some (.int k2 j)) (hj : 0 ≤ j ∧ j ≤ kk.bits ∧ (2 : Int) ^ j.toNat = q) (hw : kk.wrap (i * q) = i * q)
    (k : WpL P n D ops rest Q ((d, .int kk (i * q)) :: fr) l) : WpL P n D ops (⟨some d, .binOp .shl T x y T2, ty, pos, aft, none⟩ :: rest) Q fr l :=
  WpL.val hd (fun a w _ hh _ => by
    obtain ⟨h1, h2, h3⟩ := hj
    have hm : min j.toNat kk.bits = j.toNat := by omega
    simp [execOp, hh.ev hx, hh.ev hy, eqGuard, binOp, Op.shift, Int.not_lt.2 h1, hm, h3, hw]) k
theorem Zd {k : IntKind} {x : Int} (h0 : 0 ≤ x) (h1 : x < 2 ^ k.bits) : (BitVec.ofInt k.bits x).toNat = x.toNat := by
  rw [BitVec.toNat_ofInt]
  congr 1
  apply Int.emod_eq_of_lt h0
  exact_mod_cast h1
theorem and_mask {x : Int} {i : Nat} (h0 : 0 ≤ x) : ((x.toNat &&& (2 ^ i - 1) : Nat) : Int) = x % 2 ^ i := by
  rw [Nat.and_two_pow_sub_one_eq_mod]
  have : (x.toNat : Int) = x := Int.toNat_of_nonneg h0
  push_cast
  rw [this]
theorem or_join {x y : Int} {i : Nat} (h0 : 0 ≤ x) (hy0 : 0 ≤ y) (hy : y < 2 ^ i) : (((x * 2 ^ i).toNat ||| y.toNat : Nat) : Int) = x * 2 ^ i + y := by
  obtain ⟨a, rfl⟩ := Int.eq_ofNat_of_zero_le h0
  obtain ⟨b, rfl⟩ := Int.eq_ofNat_of_zero_le hy0
  have hb : b < 2 ^ i := by exact_mod_cast hy
  have e : (((a : Int) * 2 ^ i).toNat) = a <<< i := by
    rw [Nat.shiftLeft_eq]; exact_mod_cast Int.toNat_natCast (a * 2 ^ i)
  rw [e, Int.toNat_natCast, ← Nat.shiftLeft_add_eq_or_of_lt hb, Nat.shiftLeft_eq]
  push_cast
  rfl
theorem s_and {d T T2 : Nat} {x y : Operand} {kk : IntKind} {u j : Int} (q : Int) (i : Nat) (hd : Nat.blt d n = true) (hx : ev fr x = some (.int kk u)) (hy : ev fr y = some (.int kk j)) (hj : j = 2 ^ i - 1 ∧ (2 : Int) ^ i = q ∧ i ≤ kk.bits) (h0 : 0 ≤ u) (h1 : u < 2 ^ kk.bits) (hw : kk.wrap (u % q) = u % q)
    (k : WpL P n D ops rest Q ((d, .int kk (u % q)) :: fr) l) : WpL P n D ops (⟨some d, .binOp .and T x y T2, ty, pos, aft, none⟩ :: rest) Q fr l :=
  WpL.val hd (fun a w _ hh _ => by
    obtain ⟨rfl, rfl, hi⟩ := hj
    have hp : (0 : Int) < 2 ^ i := by exact_mod_cast Nat.two_pow_pos i
    have hle : (2 : Int) ^ i ≤ 2 ^ kk.bits := by exact_mod_cast Nat.pow_le_pow_right (by decide) hi
    have e1 := Zd (k := kk) h0 h1
    have e2 := Zd (k := kk) (x := 2 ^ i - 1) (by omega) (by omega)
    have e3 : ((2 : Int) ^ i - 1).toNat = 2 ^ i - 1 := by
      have : ((2 : Int) ^ i - 1) = ((2 ^ i - 1 : Nat) : Int) := by have := Nat.two_pow_pos i; push_cast [Int.ofNat_sub this]; rfl
      rw [this, Int.toNat_natCast]
    simp only [execOp, hh.ev hx, hh.ev hy, eqGuard, binOp, Op.intBits]
    simp only [BitVec.toNat_and, e1, e2, e3]
    rw [and_mask h0, hw]
    simp) k
theorem s_or {d T T2 : Nat} {x y : Operand} {kk : IntKind} {u j : Int} (v : Int) (i : Nat) (hd : Nat.blt d n = true) (hx : ev fr x = some (.int kk u)) (hy : ev fr y = some (.int kk j)) (hu : u = v * 2 ^ i) (h0 : 0 ≤ v) (h1 : u < 2 ^ kk.bits) (hj0 : 0 ≤ j) (hj1 : j < 2 ^ i) (hi : i ≤ kk.bits) (hw : kk.wrap (u + j) = u + j)
    (k : WpL P n D ops rest Q ((d, .int kk (u + j)) :: fr) l) : WpL P n D ops (⟨some d, .binOp .or T x y T2, ty, pos, aft, none⟩ :: rest) Q fr l :=
  WpL.val hd (fun a w _ hh _ => by
    have hp : (0 : Int) < 2 ^ i := by exact_mod_cast Nat.two_pow_pos i
    have hle : (2 : Int) ^ i ≤ 2 ^ kk.bits := by exact_mod_cast Nat.pow_le_pow_right (by decide) hi
    have hu0 : 0 ≤ u := by rw [hu]; exact Int.mul_nonneg h0 (Int.le_of_lt hp)
    have e1 := Zd (k := kk) hu0 h1
    have e2 := Zd (k := kk) hj0 (by omega)
    simp only [execOp, hh.ev hx, hh.ev hy, eqGuard, binOp, Op.intBits]
    simp only [BitVec.toNat_or, e1, e2]
    have e3 := or_join (i := i) h0 hj0 hj1
    rw [← hu] at e3
    rw [e3, hw]
    simp) k
theorem s_orw {d T T2 : Nat} {x y : Operand} {kk : IntKind} {u j : Int} (v : Int) (i : Nat) (hd : Nat.blt d n = true) (hx : ev fr x = some (.int kk j)) (hy : ev fr y = some (.int kk u)) (hu : u = v * 2 ^ i) (h0 : 0 ≤ v) (h1 : u < 2 ^ kk.bits) (hj0 : 0 ≤ j) (hj1 : j < 2 ^ i) (hi : i ≤ kk.bits) (hw : kk.wrap (u + j) = u + j)
    (k : WpL P n D ops rest Q ((d, .int kk (u + j)) :: fr) l) : WpL P n D ops (⟨some d, .binOp .or T x y T2, ty, pos, aft, none⟩ :: rest) Q fr l :=
  WpL.val hd (fun a w _ hh _ => by
    have hp : (0 : Int) < 2 ^ i := by exact_mod_cast Nat.two_pow_pos i
    have hle : (2 : Int) ^ i ≤ 2 ^ kk.bits := by exact_mod_cast Nat.pow_le_pow_right (by decide) hi
    have hu0 : 0 ≤ u := by rw [hu]; exact Int.mul_nonneg h0 (Int.le_of_lt hp)
    have e1 := Zd (k := kk) hu0 h1
    have e2 := Zd (k := kk) hj0 (by omega)
    simp only [execOp, hh.ev hx, hh.ev hy, eqGuard, binOp, Op.intBits]
    simp only [BitVec.toNat_or, e1, e2]
    have e3 := or_join (i := i) h0 hj0 hj1
    rw [← hu, Nat.or_comm] at e3
    rw [e3, hw]
    simp) k

theorem s_ixA {d t e by_ s g o c N k : Nat} {z : Value} {x y : Operand} {kk : IntKind} (hd : Nat.blt d n = true) [ht : SlT P t e s by_ z] (hx : ev fr x = some (.slice (some ⟨g, o, none⟩) N c)) (hy : ev fr y = some (.int kk (k : Int))) (hN : k < N)
    (kn : WpL P n D ops rest Q ((d, .pointer (some ⟨g, o + k * s, none⟩)) :: fr) l) : WpL P n D ops (⟨some d, .indexAddr t x y, ty, pos, aft, none⟩ :: rest) Q fr l :=
  WpL.val hd (fun A w U hh hs => by
    obtain ⟨i0, hi0, hz0, hz1, hz2⟩ := info_parts ht.hi
    simp [execOp, Instr.indexAt, hh.ev hx, hh.ev hy, asIntOf, run_underlying ht.hu, sizeOf, typeInfo, hi0, hz1, hN, ZY]) kn
theorem s_neg {d T : Nat} {x : Operand} {kk : IntKind} {i : Int} (hd : Nat.blt d n = true) (hx : ev fr x = some (.int kk i)) (hw : kk.wrap (-i) = -i) (k : WpL P n D ops rest Q ((d, .int kk (-i)) :: fr) l) : WpL P n D ops (⟨some d, .unOp .neg T x, ty, pos, aft, none⟩ :: rest) Q fr l :=
  WpL.val hd (fun A w U hh hs => by simp [execOp, Op.unary, Op.intArith, hh.ev hx, hw]) k
/-- Pointers held against nil. -/
theorem s_pne {d T T2 e : Nat} {x y : Operand} {p : Option Addr} (hd : Nat.blt d n = true) (ht : P.underlying T = some (.pointer e)) (hx : ev fr x = some (.pointer p)) (hy : ev fr y = some (.pointer none))
    (k : WpL P n D ops rest Q ((d, .bool (!p.isNone)) :: fr) l) : WpL P n D ops (⟨some d, .binOp .neq T x y T2, ty, pos, aft, none⟩ :: rest) Q fr l :=
  WpL.val hd (fun a w _ hh _ => by
    have h : P.underlying T = some (.pointer (P.pointee T)) := by rw [ht]; simp [Program.pointee, ht]
    simp [execOp, hh.ev hx, hh.ev hy, eqGuard, run_neq_pointer_nil w T p h]) k
theorem s_peq {d T T2 e : Nat} {x y : Operand} {p : Option Addr} (hd : Nat.blt d n = true) (ht : P.underlying T = some (.pointer e)) (hx : ev fr x = some (.pointer p)) (hy : ev fr y = some (.pointer none))
    (k : WpL P n D ops rest Q ((d, .bool p.isNone) :: fr) l) : WpL P n D ops (⟨some d, .binOp .eql T x y T2, ty, pos, aft, none⟩ :: rest) Q fr l :=
  WpL.val hd (fun a w _ hh _ => by
    have h : P.underlying T = some (.pointer (P.pointee T)) := by rw [ht]; simp [Program.pointee, ht]
    simp [execOp, hh.ev hx, hh.ev hy, eqGuard, run_eql_pointer_nil w T p h]) k
theorem run_equalIn_bool (w : World) (d : Nat) (t : TypeId) (p q : Bool) (h : P.underlying t = some .bool) : (Op.equalIn (d + 1) t (.bool p) (.bool q)).run P w = .ok (p == q) w := by
  simp [Op.equalIn, run_underlying h]
theorem s_beq {d T T2 : Nat} {x y : Operand} {p q : Bool} (hd : Nat.blt d n = true) (ht : P.underlying T = some .bool) (hx : ev fr x = some (.bool p)) (hy : ev fr y = some (.bool q))
    (k : WpL P n D ops rest Q ((d, .bool (p == q)) :: fr) l) : WpL P n D ops (⟨some d, .binOp .eql T x y T2, ty, pos, aft, none⟩ :: rest) Q fr l :=
  WpL.val hd (fun a w _ hh _ => by
    have h : (Op.equal T (.bool p) (.bool q)).run P w = .ok (p == q) w := run_equalIn_bool w 9999 T p q ht
    have h2 : (binOp .eql T (.bool p) (.bool q)).run P w = .ok (.bool (p == q)) w := by
      simp only [binOp]
      simp [h]
    simp [execOp, hh.ev hx, hh.ev hy, eqGuard, h2]) k
end
end Go.Proofs.YtggamdlpiejbiaaGreat
namespace Go.Proofs.YtggamdlpiejbiaaGreat
open Go.RowKit Go.Shelf
section
variable {P : Program} {n : Cx} {D : List Deferred} {Q : Post} {fr : Fr} {l m : List HP}

def tailOk (k : Nat) (tl : List Oper) : Bool := (tl.zipIdx k).all fun (o, i) => ((List.range i).all fun j => o.after.toList.any fun e => Region.binds .any e && e.on == j) && o.after.toList.all fun e => !Region.binds .any e || Nat.blt e.on i

theorem tail_any {ops : Array Oper} {Q : Exit → Act → World → Prop} : ∀ (tl pre : List Oper), ops = (pre ++ tl).toArray → tailOk pre.length tl = true → ∀ (fuel : Nat) (listed : Array Bool) (a : Act) (w : World), listed.size = (pre ++ tl).length → tl.length ≤ fuel →
    (∀ i, i < (pre ++ tl).length → listed.getD i false = decide (i < pre.length)) → wpListIn (FR n.ro) 0 P ops Q tl a w → wpAnyIn (FR n.ro) 0 P .any ops Q fuel listed a w := by
  intro tl
  induction tl with
  | nil =>
    intro pre ho hk fuel listed a w hsz hf hl h
    have hr : Region.ready .any ops listed = [] := by
      refine List.eq_nil_iff_forall_not_mem.2 fun i hi => ?_
      obtain ⟨h1, o, ho', _⟩ := mem_ready.1 hi
      have hlt : i < pre.length := by have := (Array.getElem?_eq_some_iff.1 ho').1; simpa [ho] using this
      have h2 := hl i (by simpa using hlt)
      simp only [List.append_nil] at hsz
      simp [Array.getD, hsz, hlt] at h1 h2
      rw [h2] at h1; cases h1
    cases fuel with
    | zero => exact ⟨hr, h⟩
    | succ fuel => exact ⟨fun _ => h, fun i hi => by rw [hr] at hi; cases hi⟩
  | cons o tl ih =>
    intro pre ho hk fuel listed a w hsz hf hl h
    cases fuel with
    | zero => simp at hf
    | succ fuel =>
      have hlen : (pre ++ o :: tl).length = pre.length + (tl.length + 1) := by simp
      have hk' := hk
      simp only [tailOk, List.zipIdx_cons, List.all_cons, Bool.and_eq_true] at hk'
      obtain ⟨⟨_, hedge⟩, hktl⟩ := hk'
      have hk0 : pre.length ∈ Region.ready .any ops listed := by
        refine mem_ready.2 ⟨?_, o, by simp [ho], fun e he hbd => ?_⟩
        · have := hl pre.length (by omega)
          have hlt : pre.length < listed.size := by omega
          simpa [Array.getD, hlt] using this
        · have h1 : e.on < pre.length := by
            have h0 := List.all_eq_true.1 hedge e (Array.mem_toList_iff.2 he)
            rw [hbd] at h0
            exact Eq.mp Nat.blt_eq h0
          rw [hl e.on (by omega)]
          simpa using h1
      refine ⟨(fun hr => by rw [hr] at hk0; cases hk0), fun i hi => ?_⟩
      obtain ⟨h1, o', ho', hed⟩ := mem_ready.1 hi
      have hlt : i < (pre ++ o :: tl).length := by have := (Array.getElem?_eq_some_iff.1 ho').1; simpa [ho] using this
      have hge : ¬ i < pre.length := by
        intro hc
        have h2 := hl i hlt
        have hlt2 : i < listed.size := by omega
        simp [Array.getD, hlt2, hc] at h1 h2
        rw [h2] at h1; cases h1
      have hik : i = pre.length := by
        refine Classical.byContradiction fun hne => ?_
        have h2 := List.all_eq_true.1 hk (o', i) (by
          rw [List.mem_zipIdx_iff_le_and_getElem?_sub]
          refine ⟨by omega, ?_⟩
          have h3 : (pre ++ o :: tl)[i]? = some o' := by simpa [ho] using ho'
          rwa [List.getElem?_append_right (by omega)] at h3)
        simp only [Bool.and_eq_true] at h2
        have h4 := List.all_eq_true.1 h2.1 pre.length (by simp; omega)
        obtain ⟨e, he', hc⟩ := List.any_eq_true.1 h4
        have he := Array.mem_toList_iff.1 he'
        simp only [Bool.and_eq_true, beq_iff_eq] at hc
        have h5 := hed e he hc.1
        rw [hc.2, hl pre.length (by omega)] at h5
        simp at h5
      subst hik
      have hoo : ops[pre.length]? = some o := by simp [ho]
      have key : ∀ a w, wpListIn (FR n.ro) 0 P ops Q tl a w → wpAnyIn (FR n.ro) 0 P .any ops Q fuel (listed.setIfInBounds pre.length true) a w := by
        intro a w hw
        refine ih (pre ++ [o]) (by simp [ho]) ?_ fuel _ a w (by simp; omega) (by simpa using hf) (fun j hj => ?_) hw
        · simpa [tailOk] using hktl
        · rw [Yu (by omega)]
          by_cases e : pre.length = j
          · subst e; simp
          · rw [if_neg e, hl j (by simpa using hj)]
            simp only [List.length_append, List.length_cons, List.length_nil]
            rw [decide_eq_decide]; omega
      unfold wpOpIn
      rw [hoo]
      unfold wpListIn at h
      simp only at h ⊢
      split at h
      · rename_i hw
        rw [if_pos hw]
        exact op_mono key (fun _ _ _ x => x) h
      · rename_i hw
        rw [if_neg hw]
        exact ⟨h.1, key _ _ h.2⟩

end
end Go.Proofs.YtggamdlpiejbiaaGreat
