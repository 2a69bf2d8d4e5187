/- Walks and plain laws, a part of the proof of PnmJoins: every input that the law's guards let in, no condition beside. -/
import Derived.Lib.SliceRun
import Derived.Laws.Cover3
import Derived.ProofKit
import Derived.OpenShut
import Derived.ShutString
import Derived.ChangeOld
import Derived.Below
import Derived.Lib.SmallJoins
import Derived.ChangeArms
import Derived.Test.YtggamdlpiejbiaaGreatProg
import Derived.KernelRfl
import Derived.Test.YtggamdlpiejbiaaGreatM05
namespace Go.Proofs.YtggamdlpiejbiaaGreat
open Go.RowKit Go.Shelf
/-- Some choice of parts. -/
def exs {α : Type} (f : α → List HP) : HP where
  p w S := (∀ b, S b → b < w.heap.size) ∧ ∃ x, Sat w (f x) S
  loc := fun ⟨h1, x, h2⟩ hz hb => ⟨fun b hs => Nat.lt_of_lt_of_le (h1 b hs) hz, x, Sat.keep hz h2 fun b hs _ => hb b hs⟩
  lt := fun h b hb => h.1 b hb
/-- Many parts as one. -/
def YO (m : List HP) : HP := exs fun _ : Unit => m
/-- A fact. -/
def pur (p : Prop) : HP where
  p _ S := p ∧ ∀ b, ¬ S b
  loc := fun h _ _ => h
  lt := fun h b hb => absurd hb (h.2 b)
theorem Ent.pur {p : Prop} {l m : List HP} (hp : p) (h : Ent l m) : Ent l (pur p :: m) := fun w U x => ⟨fun _ => False, ⟨hp, fun _ h => h⟩, fun _ h => h.elim, (h w U x).mono fun _ hb => ⟨hb, fun x => x⟩⟩
theorem Sat.pur {w : World} {U : Nat → Prop} {p : Prop} {l : List HP} (h : Sat w (pur p :: l) U) : p := by
  obtain ⟨S, hp, _⟩ := h
  exact hp.1
theorem Ent.exs {α : Type} {f : α → List HP} {l F : List HP} (x : α) (h : Ent l (f x ++ F)) : Ent l (exs f :: F) := fun w U hs => by
  obtain ⟨V, hV, h1, h2⟩ := (h w U hs).split
  exact ⟨V, ⟨fun b hb => (hV b hb).2, x, h1⟩, fun b hb => (hV b hb).1, h2⟩
theorem exs_sat {α : Type} {f : α → List HP} {F : List HP} {w : World} {U : Nat → Prop} (h : Sat w (exs f :: F) U) : ∃ x, Sat w (f x ++ F) U := by
  obtain ⟨S, ⟨_, x, h1⟩, h2, h3⟩ := h
  exact ⟨x, Sat.join h1 h2 h3⟩
theorem Ent.many {m l F : List HP} (h : Ent l (m ++ F)) : Ent l (YO m :: F) := Ent.exs () h
theorem Ent.unmany {m F : List HP} : Ent (YO m :: F) (m ++ F) := fun w U h => by
  obtain ⟨_, h⟩ := exs_sat h
  exact h
theorem Fn.exs {P : Program} {f : Nat} {args : Array Value} {α : Type} {g : α → List HP} {F : List HP} {R : Value → List HP → Prop} (h : ∀ x, Fn P f args (g x ++ F) R) : Fn P f args (exs g :: F) R :=
  fun w U hs => let ⟨x, hx⟩ := exs_sat hs; h x w U hx
theorem Fn.pur {P : Program} {f : Nat} {args : Array Value} {p : Prop} {F : List HP} {R : Value → List HP → Prop} (h : p → Fn P f args F R) : Fn P f args (pur p :: F) R :=
  fun w U hs => h hs.pur w U hs.tail
theorem Ent.own_blkS {g T s m : Nat} {cs : List Value} {l : List HP} (hm : cs.length = m * s) (h : m ≤ 140737488355328) : Ent (QA g cs T :: l) (QG T s (some ⟨g, 0, none⟩) m m cs :: l) := by
  rintro w U ⟨S, ⟨hS, hg⟩, hSU, hl⟩
  refine ⟨S, ⟨fun b => (hS b).trans ⟨fun e => ⟨_, rfl, e⟩, fun ⟨ad, e, hb⟩ => ?_⟩, ?_⟩, hSU, hl⟩
  · injection e with e; subst e; exact hb
  · exact ⟨by simp [hm], .inr ⟨g, m, cs.toArray, rfl, Nat.zero_le _, hg, Nat.le_refl _, by unfold maxLen; omega, by simp [hm], by simp only [List.toList_toArray]; rw [← hm]; exact List.take_length⟩⟩
theorem Fn.frame {P : Program} {f : Nat} {args : Array Value} {pre F : List HP} {R : Value → List HP → Prop} (h : Fn P f args pre R) : Fn P f args (pre ++ F) (fun v l => ∃ m, R v m ∧ l = m ++ F) := fun w U hs => by
  obtain ⟨V, hV, hfr⟩ := Out.frame hs
  refine (h w V hV).mono ?_
  rintro e w' ⟨v, l, rfl, hR, ho⟩
  exact ⟨v, _, rfl, ⟨l, hR, rfl⟩, hfr _ _ ho⟩
/-- A contract beside other parts. -/
theorem Fn.frm {P : Program} {f : Nat} {args : Array Value} {pre m F : List HP} {R : Value → Prop} (h : Fn P f args pre (fun v l => R v ∧ l = m)) : Fn P f args (pre ++ F) (fun v l => R v ∧ l = m ++ F) := fun w U hs => by
  obtain ⟨V, hV, hfr⟩ := Out.frame hs
  refine (h w V hV).mono ?_
  rintro e w' ⟨v, l, rfl, ⟨hR, rfl⟩, ho⟩
  exact ⟨v, _, rfl, ⟨hR, rfl⟩, hfr _ _ ho⟩
section
variable {P : Program} {n : Cx} {D : List Deferred} {ops : Array Oper} {rest : List Oper} {Q : Post} {fr : Fr} {l : List HP}
theorem WpL.exs {α : Type} {f : α → List HP} {F : List HP} (ht : Take1 l (exs f) F) (k : ∀ x, WpL P n D ops rest Q fr (f x ++ F)) : WpL P n D ops rest Q fr l := fun a w U hh hs => by
  obtain ⟨x, hx⟩ := exs_sat (ht.ent w U hs)
  exact k x a w U hh hx
theorem Wp.exs {α : Type} {f : α → List HP} {F : List HP} {c : Code} (ht : Take1 l (exs f) F) (k : ∀ x, Wp P n D c Q fr (f x ++ F)) : Wp P n D c Q fr l := fun a w U hh hs => by
  obtain ⟨x, hx⟩ := exs_sat (ht.ent w U hs)
  exact k x a w U hh hx
/-- A row's parts at hand: if its pointer is nil it is empty. -/
theorem WpL.rowNil {T s c m : Nat} {a : Option Addr} {xs : List Value} {F : List HP} (ht : Take1 l (QG T s a c m xs) F) (k : (a = none → xs = []) → WpL P n D ops rest Q fr l) : WpL P n D ops rest Q fr l := fun A w U hh hs => by
  refine k (fun ha => ?_) A w U hh hs
  obtain ⟨S, hp, _⟩ := ht.ent w U hs
  rcases XM hp with ⟨_, _, _, h⟩ | ⟨g, _, h, _⟩
  · exact h
  · rw [ha] at h; cases h
theorem WpL.pur {p : Prop} {F : List HP} (ht : Take1 l (pur p) F) (k : p → WpL P n D ops rest Q fr F) : WpL P n D ops rest Q fr l := fun a w U hh hs => by
  have h := ht.ent w U hs
  exact k h.pur a w U hh h.tail
theorem Wp.pur {p : Prop} {F : List HP} {c : Code} (ht : Take1 l (pur p) F) (k : p → Wp P n D c Q fr F) : Wp P n D c Q fr l := fun a w U hh hs => by
  have h := ht.ent w U hs
  exact k h.pur a w U hh h.tail
end
theorem fill_seg (s : Nat) : ∀ (vs : List (List Value)) (pre cells : List Value) (k : Nat), pre.length = k * s → (∀ v ∈ vs, v.length = s) → cells.length = vs.length * s →
    Instr.fill (fun i => some (i * s, s)) (pre ++ cells).toArray ((vs.zipIdx k).map fun (v, i) => (i, Value.agg v.toArray)) = some (pre ++ vs.flatten).toArray
  | [], pre, cells, k, _, _, hc => by
    have : cells = [] := List.eq_nil_of_length_eq_zero (by simpa using hc)
    subst this; simp [Instr.fill]
  | v :: vs, pre, cells, k, hp, hv, hc => by
    have hvl := hv v (by simp)
    simp only [List.length_cons, Nat.add_mul, Nat.one_mul] at hc
    have ih := fill_seg s vs (pre ++ v) (cells.drop v.length) (k + 1) (by simp [hp, hvl, Nat.add_mul]) (fun u hu => hv u (by simp [hu])) (by rw [List.length_drop]; omega)
    simp only [List.zipIdx_cons, List.map_cons, Instr.fill]
    split
    · rename_i h
      simp only [Value.cells, Bool.or_eq_true, decide_eq_true_eq, List.size_toArray, List.length_append] at h
      omega
    · simp only [Value.cells]
      rw [← hp, foldl_seg v pre cells (by omega)]
      rw [ih]
      simp
theorem run_bsA {P : Program} {t e s by_ : Nat} {z : Value} [ht : SlT P t e s by_ z] (_hz : z.cells.size = s) (hs : 0 < s) (vs : List (List Value)) (hv : ∀ v ∈ vs, v.length = s) (hne : 0 < vs.length) (hn : vs.length * s ≤ 1000) (parts : Array (Nat × Value)) (hp : parts.toList = (vs.zipIdx).map (fun (v, i) => (i, Value.agg v.toArray))) (w : World) :
    (Instr.buildSlice t vs.length parts).run P w = .ok (.slice (some ⟨w.heap.size, 0, none⟩) vs.length vs.length) (w.alloc (.cells vs.flatten.toArray e)) := by
  obtain ⟨i0, hi, hz0, hz1, hz2⟩ := info_parts ht.hi
  have hl : ((Array.range (vs.length * s)).map (z.cells[· % z.cells.size]!)).toList.length = vs.length * s := by simp
  have h1 := fill_seg s vs [] ((Array.range (vs.length * s)).map (z.cells[· % z.cells.size]!)).toList 0 (by simp) hv hl
  simp only [List.nil_append] at h1
  simp only [Instr.buildSlice, Sem.run_bind, run_underlying ht.hu, Result.andThen_ok, sizeOf, typeInfo, run_program, hi, Sem.run_pure, hz1, zeroValue]
  have hpos : 0 < vs.length * s := Nat.mul_pos hne hs
  rw [if_neg (by omega), if_neg (by omega)]
  simp only [Sem.run_bind, Sem.run_pure, Result.andThen_ok, run_program, hi, hz0]
  rw [hp, show ((Array.range (vs.length * s)).map (z.cells[· % z.cells.size]!)) = (((Array.range (vs.length * s)).map (z.cells[· % z.cells.size]!)).toList).toArray from (Array.toArray_toList).symm, h1]
  simp [newRow]
section
variable {P : Program} {n : Cx} {D : List Deferred} {ops : Array Oper} {rest : List Oper} {Q : Post} {fr : Fr} {l : List HP} {ty : Nat} {pos : String} {aft : Array Edge}
theorem s_bsA {d t e s by_ m : Nat} {z : Value} {os : List (Nat × Operand)} (vs : List (List Value)) (hd : Nat.blt d n = true) [ht : SlT P t e s by_ z] (hz : z.cells.size = s) (hs : 0 < s) (hm : vs.length = m) (hv : ∀ v ∈ vs, v.length = s) (hne : 0 < vs.length) (hn : vs.length * s ≤ 1000)
    (hp : evp fr os = some ((vs.zipIdx).map (fun (v, i) => (i, Value.agg v.toArray))))
    (k : ∀ g, WpL P n D ops rest Q ((d, .slice (some ⟨g, 0, none⟩) m m) :: fr) (QA g vs.flatten e :: l)) : WpL P n D ops (⟨some d, .buildSlice t m os.toArray, ty, pos, aft, none⟩ :: rest) Q fr l := by
  subst hm
  refine XR hd (fun g => .slice (some ⟨g, 0, none⟩) vs.length vs.length) (fun g => QA g vs.flatten e :: l) (fun a w U hh hs => ⟨w.heap.size, _, ?_, Z3 hs vs.flatten e⟩) k
  have := run_bsA (P := P) (t := t) hz ‹0 < s› vs hv hne hn (os.map fun p => (p.1, a.eval p.2)).toArray (by simpa using evp_map hh os _ hp) w
  simp only [execOp, Sem.run_bind]
  rw [show ((os.toArray.map fun (i, x) => (i, a.eval x)) : Array (Nat × Value)) = (os.map fun p => (p.1, a.eval p.2)).toArray from by simp, this]
  simp
theorem Vi {d t e s by_ : Nat} {z : Value} {us : List Value} {x : Operand} (hd : Nat.blt d n = true) [ht : SlT P t e s by_ z] (hx : ev fr x = some (.agg us.toArray)) (hz : z.cells.size = s) (hl : us.length = s) (hb : Nat.blt 0 s = true) (hn : Nat.ble (1 * s) 1000 = true)
    (k : ∀ g, WpL P n D ops rest Q ((d, .slice (some ⟨g, 0, none⟩) 1 1) :: fr) (QA g us e :: l)) : WpL P n D ops (⟨some d, .buildSlice t 1 #[(0, x)], ty, pos, aft, none⟩ :: rest) Q fr l :=
  s_bsA (os := [(0, x)]) [us] hd hz (Eq.mp Nat.blt_eq hb) rfl (by simp [hl]) (by simp) (by have := Nat.le_of_ble_eq_true hn; simpa using this) (by simp [evp, hx]) (by simpa using k)
theorem s_slne {d T T2 e m c : Nat} {x y : Operand} {a : Option Addr} (hd : Nat.blt d n = true) (ht : P.underlying T = some (.slice e)) (hx : ev fr x = some (.slice a m c)) (hy : ev fr y = some (.slice none 0 0))
    (k : WpL P n D ops rest Q ((d, .bool (!a.isNone)) :: fr) l) : WpL P n D ops (⟨some d, .binOp .neq T x y T2, ty, pos, aft, none⟩ :: rest) Q fr l :=
  WpL.val hd (fun A w _ hh _ => by
    have h := run_neq_slice_nil w T e a m c ht
    simp [execOp, hh.ev hx, hh.ev hy, eqGuard, h]) k
theorem s_ifneN {d T T2 : Nat} {ms : Array (String × TypeId)} {x : Operand} (hd : Nat.blt d n = true) (ht : P.underlying T = some (.interface ms)) (hx : ev fr x = some .nilIface)
    (k : WpL P n D ops rest Q ((d, .bool false) :: fr) l) : WpL P n D ops (⟨some d, .binOp .neq T x (.const .nilIface) T2, ty, pos, aft, none⟩ :: rest) Q fr l :=
  WpL.val hd (fun A w _ hh _ => by
    have h : ∀ d : Nat, (Op.equalIn (d + 1) T .nilIface .nilIface).run P w = .ok true w := fun d => by
      simp [Op.equalIn, run_underlying ht]
    have h2 : (binOp .neq T .nilIface .nilIface).run P w = .ok (.bool false) w := by
      simp only [binOp]
      simp [Op.equal, Op.maxDepth, h 9999]
    have e2 : A.eval (.const .nilIface) = .nilIface := rfl
    simp [execOp, hh.ev hx, e2, eqGuard, h2]) k
theorem s_ifneV {d T T2 X : Nat} {ms : Array (String × TypeId)} {v : Value} {x : Operand} (hd : Nat.blt d n = true) (ht : P.underlying T = some (.interface ms)) (hx : ev fr x = some (.iface X v))
    (k : WpL P n D ops rest Q ((d, .bool true) :: fr) l) : WpL P n D ops (⟨some d, .binOp .neq T x (.const .nilIface) T2, ty, pos, aft, none⟩ :: rest) Q fr l :=
  WpL.val hd (fun A w _ hh _ => by
    have h : ∀ d : Nat, (Op.equalIn (d + 1) T (.iface X v) .nilIface).run P w = .ok false w := fun d => by
      simp [Op.equalIn, run_underlying ht]
    have h2 : (binOp .neq T (.iface X v) .nilIface).run P w = .ok (.bool true) w := by
      simp only [binOp]
      simp [Op.equal, Op.maxDepth, h 9999]
    have e2 : A.eval (.const .nilIface) = .nilIface := rfl
    simp [execOp, hh.ev hx, e2, eqGuard, h2]) k
end
end Go.Proofs.YtggamdlpiejbiaaGreat
namespace Go.Proofs.YtggamdlpiejbiaaGreat
open Go.RowKit Go.Shelf
def rcR {α : Type} (T s Tx : Nat) (cs : α → Option Addr → Nat → List Value) (row : α → List Int) (a : Option Addr) (c : Nat) (es : List α) : HP :=
  exs fun l : List (α × Option Addr × Nat) => [pur (l.map (·.1) = es), QG T s a c es.length (l.flatMap fun r => cs r.1 r.2.1 r.2.2), YO (l.map fun r => QG Tx 1 r.2.1 r.2.2 (row r.1).length (Xp (row r.1)))]
theorem Ent.many_snoc {L : List HP} {A : HP} {F : List HP} : Ent (YO L :: A :: F) (YO (L ++ [A]) :: F) := by
  refine Ent.trans Ent.unmany ?_
  refine Ent.many ?_
  rw [List.append_assoc]
  exact Ent.refl _
theorem Ent.mem {A : HP} : ∀ {L : List HP}, A ∈ L → Ent L [A]
  | B :: L, h => by
    rcases List.mem_cons.1 h with rfl | h
    · exact Ent.cons (Ent.nil _)
    · exact Ent.drop (Ent.mem h)
theorem many_mem {A : HP} {L : List HP} (h : A ∈ L) : Ent [YO L] [A] := Ent.trans (Ent.trans Ent.unmany (by rw [List.append_nil]; exact Ent.refl _)) (Ent.mem h)
/-- The row of one of them is read. -/
theorem ZS {α : Type} {Tx : Nat} {row : α → List Int} {l : List (α × Option Addr × Nat)} {r : α × Option Addr × Nat} (h : r ∈ l) : RdsL [YO (l.map fun r => QG Tx 1 r.2.1 r.2.2 (row r.1).length (Xp (row r.1)))] r.2.1 (Xp (row r.1)) :=
  RdsL.ent (QE (T := Tx) (s := 1) (c := r.2.2) (m := (row r.1).length)) (many_mem (List.mem_map_of_mem h))
theorem Ent.rcNil {α : Type} {T s Tx : Nat} {cs : α → Option Addr → Nat → List Value} {row : α → List Int} {l F : List HP} (h : Ent l F) : Ent l (rcR T s Tx cs row none 0 [] :: F) :=
by unfold rcR; exact Ent.exs [] (Ent.pur rfl (Ent.own_nil (Ent.many h)))
section
variable {P : Program} {n : Cx} {D : List Deferred} {ops : Array Oper} {rest : List Oper} {Q : Post} {fr : Fr} {l : List HP} {ty : Nat} {pos : String} {aft : Array Edge}
/-- append(s, x), x a struct with a row of its QG, which goes along. -/
theorem s_apR1 {α : Type} {d t e s by_ Tx : Nat} {z : Value} {x y : Operand} {cs : α → Option Addr → Nat → List Value} {row : α → List Int} {a a3 : Option Addr} {c c2 c3 g2 T2 : Nat} {es : List α} {news : List Value} {F : List HP} (v : α) (hd : Nat.blt d n = true) [ht : SlT P t e s by_ z]
    (hx : ev fr x = some (.slice a es.length c)) (hy : ev fr y = some (.slice (some ⟨g2, 0, none⟩) 1 c2)) (htk : Take l [rcR e s Tx cs row a c es, QA g2 news T2, QG Tx 1 a3 c3 (row v).length (Xp (row v))] F) (hnw : news = cs v a3 c3)
    (hz : z.cells.size = s) (hs : Nat.blt 0 s = true) (hl : news.length = s) (h1 : news.all Value.oneCell' = true) (hb : (es.length + 1) * by_ ≤ 140737488355328) (hm : es.length + 1 ≤ 140737488355328)
    (k : ∀ a' c', WpL P n D ops rest Q ((d, .slice a' (es ++ [v]).length c') :: fr) (rcR e s Tx cs row a' c' (es ++ [v]) :: F)) : WpL P n D ops (⟨some d, .call ⟨.builtin .append, #[x, y], #[t, t]⟩, ty, pos, aft, none⟩ :: rest) Q fr l := by
  refine WpL.ent htk.ent (WpL.exs .here fun L => ?_)
  refine WpL.pur .here fun hL => ?_
  subst hnw
  refine XA (T2 := T2) (news := cs v a3 c3) (xs := L.flatMap fun r => cs r.1 r.2.1 r.2.2) (F := [YO (L.map fun r => QG Tx 1 r.2.1 r.2.2 (row r.1).length (Xp (row r.1))), QG Tx 1 a3 c3 (row v).length (Xp (row v))] ++ F) hd hx hy (Take.cons .here (Take.cons (.there .here) .nil)) hz hs (by rw [hl, Nat.one_mul]) h1 hb hm fun a' c' => ?_
  have hlen : (es ++ [v]).length = es.length + 1 := by simp
  have hk := k a' c'
  rw [hlen] at hk
  refine WpL.ent ?_ hk
  refine Ent.trans (Ent.cons Ent.many_snoc) ?_
  refine Ent.exs (L ++ [(v, a3, c3)]) (Ent.pur (by rw [List.map_append, hL]; rfl) ?_)
  rw [List.flatMap_append, List.map_append, hlen]
  simp only [List.flatMap_cons, List.flatMap_nil, List.append_nil]
  exact Ent.refl _
/-- append(s, t...), t a row that is read, be it empty. -/
theorem s_appR {d t e s by_ : Nat} {z : Value} {x y : Operand} {a a2 : Option Addr} {c m c2 m2 : Nat} {xs ys : List Value} {As F : List HP} (hd : Nat.blt d n = true) [ht : SlT P t e s by_ z] (hx : ev fr x = some (.slice a m c)) (hy : ev fr y = some (.slice a2 m2 c2))
    (htk : Take l [QG e s a c m xs] F) (hA : RdsL As a2 ys) (he : Ent l As) (hl : ys.length = m2 * s) (hz : z.cells.size = s) (hs : Nat.blt 0 s = true) (h1 : ∀ u ∈ ys, u.oneCell' = true) (hb : (m + m2) * by_ ≤ 140737488355328) (hm : m + m2 ≤ 140737488355328)
    (k : ∀ a' c', WpL P n D ops rest Q ((d, .slice a' (m + m2) c') :: fr) (QG e s a' c' (m + m2) (xs ++ ys) :: F)) : WpL P n D ops (⟨some d, .call ⟨.builtin .append, #[x, y], #[t, t]⟩, ty, pos, aft, none⟩ :: rest) Q fr l := by
  by_cases hne : ys = []
  · subst hne
    have hm2 : m2 = 0 := by
      have := Eq.mp Nat.blt_eq hs
      rcases Nat.mul_eq_zero.1 hl.symm with h | h <;> omega
    subst hm2
    refine XR (σ := Option Addr × Nat) hd (fun p => .slice p.1 (m + 0) p.2) (fun p => QG e s p.1 p.2 (m + 0) (xs ++ []) :: F) (fun A w U hh hs' => ?_) (fun p => k p.1 p.2)
    have h2 := htk.ent w U hs'
    obtain ⟨S1, hp1, _⟩ := id h2
    cases a2 with
    | none =>
      refine ⟨(a, c), w, ?_, (Out.refl h2).ent ?_⟩
      · obtain ⟨i0, hi, hz0, hz1, hz2⟩ := info_parts ht.hi
        have hle : m ≤ c := by rcases XM hp1 with ⟨_, h, h', _⟩ | ⟨_, _, _, _, h, _⟩ <;> omega
        simp [execOp, resolve, invoke, builtin, hh.ev hx, hh.ev hy, Builtin.append_, run_underlying ht.hu, sizeOf, typeInfo, hi, Builtin.lenOf, hle, Builtin.firstCells, storeCells]
        cases a <;> simp
      · simp only [Nat.add_zero, List.append_nil]; exact Ent.refl _
    | some ad =>
      obtain ⟨a', c', w', hr, ho⟩ := Vf (P := P) (t := t) (ty := ty) hz (Eq.mp Nat.blt_eq hs) h2 ad 0 c2 [] (by simp) (fun j u hu => by simp at hu) (by simp) hb hm
      exact ⟨(a', c'), w', by simp [execOp, resolve, invoke, builtin, hh.ev hx, hh.ev hy, hr], ho⟩
  · exact s_appr hd hx hy htk hA he hne hl hz hs h1 hb hm k
end
/-- The cells of one element. -/
theorem Zf {α : Type} {s : Nat} {f : α → List Value} (hf : ∀ x, (f x).length = s) : ∀ (l : List α) (i : Nat) (hi : i < l.length), ((l.flatMap f).drop (i * s)).take s = f l[i]
  | x :: l, 0, _ => by
    rw [List.flatMap_cons, Nat.zero_mul, List.drop_zero, List.take_append_of_le_length (by rw [hf]; omega), List.take_of_length_le (by rw [hf]; omega)]
    rfl
  | x :: l, i + 1, hi => by
    have ih := Zf hf l i (by simpa using hi)
    rw [List.flatMap_cons, List.getElem_cons_succ, ← ih, Nat.add_mul, Nat.one_mul, Nat.add_comm (i * s), ← List.drop_drop, List.drop_append_of_le_length (by rw [hf]; omega), show (f x).drop s = [] from List.drop_of_length_le (by rw [hf]; omega), List.nil_append]
end Go.Proofs.YtggamdlpiejbiaaGreat
namespace Go.Proofs.YtggamdlpiejbiaaGreat
open Go.RowKit Go.Shelf
theorem wf_i64 {n : Int} (h : (Lit.int .i64 n).wf = true) : -9223372036854775808 ≤ n ∧ n < 9223372036854775808 := by
  simp [Lit.wf, IntKind.min, IntKind.max, IntKind.bits, IntKind.signed] at h
  omega
theorem cell_same {w w' : World} {a : Addr} (h : w'.heap[a.block]? = w.heap[a.block]?) : w'.cell? a = w.cell? a := by
  unfold World.cell?
  rw [h]
end Go.Proofs.YtggamdlpiejbiaaGreat
namespace Go.Proofs.YtggamdlpiejbiaaGreat
open Go.RowKit Go.Shelf
theorem add_add (a : Addr) (m n : Nat) : (a.add m).add n = a.add (m + n) := by
  unfold Addr.add
  by_cases h1 : m = 0
  · subst h1; simp
  · by_cases h2 : n = 0
    · subst h2; simp [h1]
    · rw [if_neg h1, if_neg h2, if_neg (by omega)]; simp [Nat.add_assoc]
class FOffA (P : Program) (T k : Nat) (off : outParam Nat) : Prop where
  run : ∀ (ad : Addr) w, (Instr.fieldAt T (.pointer (some ad)) k).run P w = .ok (.pointer (some (ad.add off))) w
section
variable {P : Program} {n : Cx} {D : List Deferred} {ops : Array Oper} {rest : List Oper} {Q : Post} {fr : Fr} {l : List HP} {ty : Nat} {pos : String} {aft : Array Edge}
/-- An element's place, elements of s cells. -/
theorem Zp {d t e s by_ c N : Nat} {z : Value} {x y : Operand} {a : Option Addr} {kk : IntKind} {i : Int} {As : List HP} {xs : List Value} (k : Nat) (hd : Nat.blt d n = true) [ht : SlT P t e s by_ z] (hx : ev fr x = some (.slice a N c)) (hy : ev fr y = some (.int kk i))
    (hA : RdsL As a xs) (he : Ent l As) (hi : i = (k : Int)) (hN : k < N) (hne : xs ≠ []) (kn : WpL P n D ops rest Q ((d, .pointer (a.map fun ad => ad.add (k * s))) :: fr) l) :
    WpL P n D ops (⟨some d, .indexAddr t x y, ty, pos, aft, none⟩ :: rest) Q fr l :=
  WpL.val hd (fun A w U hh hs => by
    obtain ⟨h1, _⟩ := hA w U (he w U hs)
    obtain ⟨i0, hi0, hz0, hz1, hz2⟩ := info_parts ht.hi
    cases a with
    | none => exact absurd (h1 hne) (by simp)
    | some ad =>
      subst hi
      simp [execOp, Instr.indexAt, hh.ev hx, hh.ev hy, asIntOf, run_underlying ht.hu, sizeOf, typeInfo, hi0, hz1]
      omega) kn
/-- A field's place within it. -/
theorem ZF {d T f off k : Nat} {x : Operand} {a : Option Addr} {As : List HP} {xs : List Value} (o2 : Nat) (hd : Nat.blt d n = true) [hf : FOffA P T f off] (hx : ev fr x = some (.pointer (a.map fun ad => ad.add k))) (hA : RdsL As a xs) (he : Ent l As) (hne : xs ≠ []) (ho : k + off = o2)
    (kn : WpL P n D ops rest Q ((d, .pointer (a.map fun ad => ad.add o2)) :: fr) l) : WpL P n D ops (⟨some d, .fieldAddr T x f, ty, pos, aft, none⟩ :: rest) Q fr l :=
  WpL.val hd (fun A w U hh hs => by
    obtain ⟨h1, _⟩ := hA w U (he w U hs)
    cases a with
    | none => exact absurd (h1 hne) (by simp)
    | some ad =>
      have hx' := hh.ev hx
      simp only [Option.map_some] at hx'
      have := hf.run (ad.add k) w
      rw [add_add, ho] at this
      simp [execOp, hx', this]) kn
/-- A struct out of it. -/
theorem ZU {d T k kk : Nat} {x : Operand} {a : Option Addr} {As : List HP} {xs vs : List Value} (hd : Nat.blt d n = true) [hT : AggT P T kk] (hx : ev fr x = some (.pointer (a.map fun ad => ad.add k))) (hA : RdsL As a xs) (he : Ent l As) (hne : xs ≠ []) (hn : vs.length = kk) (hv : (xs.drop k).take vs.length = vs)
    (kn : WpL P n D ops rest Q ((d, .agg vs.toArray) :: fr) l) : WpL P n D ops (⟨some d, .load T x, ty, pos, aft, none⟩ :: rest) Q fr l :=
  WpL.val hd (fun A w U hh hs => by
    obtain ⟨h1, h2⟩ := hA w U (he w U hs)
    cases a with
    | none => exact absurd (h1 hne) (by simp)
    | some ad =>
      have hc : ∀ j v, vs[j]? = some v → w.cell? ((ad.add k).add j) = some v := fun j v hj => by
        rw [add_add]; exact h2 ad rfl (k + j) v (drop_at xs vs k hv j v hj)
      have := run_loadCells_list (P := P) w (ad.add k) vs hc
      rw [hn] at this
      have hx' := hh.ev hx
      simp only [Option.map_some] at hx'
      simp [execOp, hx', Instr.loadAt, Instr.sureAddr, loadVar, hT.agg, hT.size, this]) kn
end
/-- The old memory, as it was. -/
def oldW (W : World) : HP where
  p w S := (∀ b, S b ↔ b < W.heap.size) ∧ W.heap.size ≤ w.heap.size ∧ ∀ b, b < W.heap.size → w.heap[b]? = W.heap[b]?
  loc := fun ⟨hs, hz0, h⟩ hz hb => ⟨hs, Nat.le_trans hz0 hz, fun b hlt => (hb b ((hs b).2 hlt)).trans (h b hlt)⟩
  lt := fun ⟨hs, hz, _⟩ b hb => Nat.lt_of_lt_of_le ((hs b).1 hb) hz
theorem Fn.belowW {P : Program} {f : Nat} {args : Array Value} {x : Value} (W : World) (h : Fn P f args [oldW W] (fun v l => v = x ∧ l = [oldW W])) :
    Calls P f args W fun e w' => e = .returned x ∧ Below W.heap.size W w' := by
  refine (h W (fun b => b < W.heap.size) ⟨fun b => b < W.heap.size, ⟨fun b => Iff.rfl, Nat.le_refl _, fun _ _ => rfl⟩, fun _ h => h, trivial⟩).mono ?_
  rintro e w' ⟨v, l, rfl, ⟨rfl, rfl⟩, ho⟩
  obtain ⟨S, ⟨_, hz, hg⟩, _⟩ := ho.1
  exact ⟨rfl, ho.2.os, ho.2.tape, ho.2.output, hz, hg⟩
theorem cell_lt {w : World} {a : Addr} {v : Value} (h : w.cell? a = some v) : a.block < w.heap.size := by
  unfold World.cell? at h
  rcases Nat.lt_or_ge a.block w.heap.size with hl | hl
  · exact hl
  · rw [Array.getElem?_eq_none hl] at h; simp at h
/-- What is read of the old memory. -/
theorem RdsL.old {W : World} {a : Option Addr} {xs : List Value} (h : xs = [] ∨ ∃ x, a = some x ∧ ∀ (j : Nat) (u : Value), xs[j]? = some u → W.cell? (x.add j) = some u) : RdsL [oldW W] a xs := by
  intro w U ⟨S, ⟨_, _, hg⟩, _⟩
  rcases h with rfl | ⟨x, rfl, hc⟩
  · exact ⟨fun h => absurd rfl h, fun _ _ j u h => by simp at h⟩
  · refine ⟨fun _ => rfl, fun ad had j u hu => ?_⟩
    injection had with had
    subst had
    have := hc j u hu
    rw [← this]
    exact cell_same (hg _ (cell_lt this))
end Go.Proofs.YtggamdlpiejbiaaGreat
namespace Go.Proofs.YtggamdlpiejbiaaGreat
open Go.RowKit Go.Shelf Go.ChangeShapes Go.WideShapes Go.ChangeAt
theorem open_nums {H : Type} {enc : TypeId × Value → H} {P : Program} {W : World} {sp : Nat → Bool} {held : Bool} {t e : Nat} {k : IntKind} {fuel : Nat} {cs : List Value} {x : DataW H × List MemPlace} (ht : P.underlying t = some (.slice e)) (he : P.underlying e = some (.int k)) (hc : P.cellsOf e = 1)
    (h : DataW.trod enc P W 0 sp held fuel t cs = some x) : ∃ (a : Option Addr) (n c : Nat) (zs : List Int), cs = [.slice a n c] ∧ zs.length = n ∧ n ≤ c ∧ c ≤ maxLen ∧ (∀ z ∈ zs, (Lit.int k z).wf = true) ∧ RdsL [oldW W] a (zs.map (Value.int k)) := by
  rcases open_ints ht he hc h with ⟨hcs, _⟩ | ⟨ad, l, c, zs, hcs, _, hl, hm, hz, _, hcell, hwz⟩
  · exact ⟨none, 0, 0, [], hcs, rfl, Nat.le_refl _, by simp [maxLen], by simp, RdsL.nil⟩
  · have hzl : l ≤ zs.length := by rw [hz]; split <;> omega
    refine ⟨some ad, l, c, zs.take l, hcs, by rw [List.length_take]; omega, hl, hm, fun z hz2 => hwz z (List.mem_of_mem_take hz2), RdsL.old (.inr ⟨ad, rfl, fun j u hu => ?_⟩)⟩
    rw [List.getElem?_map] at hu
    obtain ⟨y, hy, rfl⟩ := Option.map_eq_some_iff.1 hu
    obtain ⟨hj, hy⟩ := List.getElem?_eq_some_iff.1 hy
    rw [List.length_take] at hj
    rw [hcell j (by omega), ← hy, List.getElem_take]
    simp [List.getD, List.getElem?_eq_getElem (show j < zs.length by omega)]
end Go.Proofs.YtggamdlpiejbiaaGreat
namespace Go.Proofs.YtggamdlpiejbiaaGreat
open Go.RowKit Go.Shelf Go.ChangeShapes Go.WideShapes Go.ChangeAt
theorem len1 {α : Type} : ∀ {l : List α}, l.length = 1 → ∃ a0, l = [a0]
  | [a0], _ => ⟨a0, rfl⟩
theorem len5 {α : Type} : ∀ {l : List α}, l.length = 5 → ∃ a0 a1 a2 a3 a4, l = [a0, a1, a2, a3, a4]
  | [a0, a1, a2, a3, a4], _ => ⟨a0, a1, a2, a3, a4, rfl⟩
theorem qs_of {α : Type} {f : α → List Value} {ok : α → Prop} : ∀ {qs : List (List Value)}, (∀ q ∈ qs, ∃ g : α, q = f g ∧ ok g) → ∃ gs : List α, qs = gs.map f ∧ ∀ g ∈ gs, ok g
  | [], _ => ⟨[], rfl, by simp⟩
  | q :: qs, h => by
    obtain ⟨g, rfl, hg⟩ := h q (List.mem_cons_self ..)
    obtain ⟨gs, rfl, hgs⟩ := qs_of fun x hx => h x (List.mem_cons_of_mem _ hx)
    exact ⟨g :: gs, rfl, fun x hx => (List.mem_cons.1 hx).elim (fun e => e ▸ hg) (hgs x)⟩
theorem flat_pos {k : Nat} : ∀ {qs : List (List Value)}, (∀ q ∈ qs, q.length = k) → ∀ (j : Nat) (u : Value), qs.flatten[j]? = some u → ∃ i m q, i < qs.length ∧ qs[i]? = some q ∧ q[m]? = some u ∧ j = i * k + m ∧ m < k
  | [], _, j, u, hu => by simp at hu
  | q :: qs, h, j, u, hu => by
    have hq := h q (List.mem_cons_self ..)
    rw [List.flatten_cons] at hu
    by_cases hj : j < k
    · rw [List.getElem?_append_left (by omega)] at hu
      exact ⟨0, j, q, by simp, rfl, hu, by omega, hj⟩
    · rw [List.getElem?_append_right (by omega), hq] at hu
      obtain ⟨i, m, q', h1, h2, h3, h4, h5⟩ := flat_pos (fun x hx => h x (List.mem_cons_of_mem _ hx)) _ u hu
      refine ⟨i + 1, m, q', by simp only [List.length_cons]; omega, by simpa using h2, h3, ?_, h5⟩
      rw [Nat.add_mul]; omega
theorem open_sl {H : Type} {enc : TypeId × Value → H} {P : Program} {W : World} {sp : Nat → Bool} {held : Bool} {t e k : Nat} {Q : List Value → Prop} {fuel : Nat} {cs : List Value} {x : DataW H × List MemPlace} (ht : P.underlying t = some (.slice e)) (hc : P.cellsOf e = k)
    (hQ : ∀ fuel cs x, cs.length = k → DataW.trod enc P W 0 sp held fuel e cs = some x → Q cs)
    (h : DataW.trod enc P W 0 sp held fuel t cs = some x) : ∃ (a : Option Addr) (n c : Nat) (qs : List (List Value)), cs = [.slice a n c] ∧ qs.length = n ∧ n ≤ c ∧ c ≤ maxLen ∧ (∀ q ∈ qs, q.length = k ∧ Q q) ∧ RdsL [oldW W] a qs.flatten := by
  rcases DataW.trod_slice ht h with ⟨rfl, _⟩ | ⟨a, len, cap, elems, rest, n, _, rfl, _, _, hl, hm, hlen, hel, _, _⟩
  · exact ⟨none, 0, 0, [], rfl, rfl, Nat.le_refl _, by simp [maxLen], by simp, RdsL.nil⟩
  · rw [hc] at hel
    let qs : List (List Value) := (List.range len).map fun i => ((W.cells? 0 (a.add (i * k)) k).getD [])
    have hqs : ∀ i, i < len → ∃ q, W.cells? 0 (a.add (i * k)) k = some q ∧ q.length = k ∧ Q q := by
      intro i hi
      have h1 := hel i hi
      rw [List.getElem?_eq_getElem (by omega)] at h1
      obtain ⟨q, hq, hq2⟩ := Option.bind_eq_some_iff.1 h1
      have hql := (World.cells?_some hq).2.1
      exact ⟨q, hq, hql, hQ _ _ _ hql hq2⟩
    have hmem : ∀ q ∈ qs, q.length = k ∧ Q q := by
      intro q hq
      obtain ⟨i, hi, rfl⟩ := List.mem_map.1 hq
      obtain ⟨q, h1, h2⟩ := hqs i (List.mem_range.1 hi)
      rw [h1]; exact h2
    refine ⟨some a, len, cap, qs, rfl, by simp [qs], hl, hm, hmem, RdsL.old (.inr ⟨a, rfl, fun j u hu => ?_⟩)⟩
    obtain ⟨i, m, q, hi, hq, hu2, rfl, hm2⟩ := flat_pos (fun q hq => (hmem q hq).1) j u hu
    have hi' : i < len := by simpa [qs] using hi
    obtain ⟨q', h1, h2, _⟩ := hqs i hi'
    have hqq : q = q' := by
      simp only [qs, List.getElem?_map, List.getElem?_range hi', Option.map_some, h1, Option.getD_some, Option.some.injEq] at hq
      exact hq.symm
    subst hqq
    have h3 := (World.cells?_some h1).2.2 m hm2
    rw [add_add] at h3
    rw [h3, hu2]
theorem open_slv {H : Type} {enc : TypeId × Value → H} {P : Program} {W : World} {sp : Nat → Bool} {held : Bool} {t e k : Nat} {α : Type} {f : α → List Value} {ok : α → Prop} {fuel : Nat} {cs : List Value} {x : DataW H × List MemPlace} (ht : P.underlying t = some (.slice e)) (hc : P.cellsOf e = k)
    (hQ : ∀ fuel cs x, cs.length = k → DataW.trod enc P W 0 sp held fuel e cs = some x → ∃ g : α, cs = f g ∧ ok g)
    (h : DataW.trod enc P W 0 sp held fuel t cs = some x) : ∃ (a : Option Addr) (c : Nat) (gs : List α), cs = [.slice a gs.length c] ∧ gs.length ≤ c ∧ c ≤ maxLen ∧ (∀ g ∈ gs, ok g) ∧ RdsL [oldW W] a (gs.flatMap f) := by
  obtain ⟨a, n, c, qs, rfl, hn, hl, hm, hq, hr⟩ := open_sl (Q := fun q => ∃ g : α, q = f g ∧ ok g) ht hc hQ h
  obtain ⟨gs, rfl, hgs⟩ := qs_of fun q hx => (hq q hx).2
  rw [List.length_map] at hn
  subst hn
  refine ⟨a, c, gs, rfl, hl, hm, hgs, ?_⟩
  rwa [List.flatMap_def]
end Go.Proofs.YtggamdlpiejbiaaGreat
namespace Go.Proofs.YtggamdlpiejbiaaGreat
open Go.RowKit Go.Shelf

theorem mixed : Tryz.prog.follows .mixedOrders = true := by kernel_rfl
instance : Scal Tryz.prog 3 := ⟨fun _ => by kernel_rfl, fun _ => by kernel_rfl⟩
instance : Scal Tryz.prog 4 := ⟨fun _ => by kernel_rfl, fun _ => by kernel_rfl⟩
instance : Scal Tryz.prog 5 := ⟨fun _ => by kernel_rfl, fun _ => by kernel_rfl⟩
instance : Scal Tryz.prog 22 := ⟨fun _ => by kernel_rfl, fun _ => by kernel_rfl⟩
instance : Scal Tryz.prog 26 := ⟨fun _ => by kernel_rfl, fun _ => by kernel_rfl⟩
instance : Scal Tryz.prog 31 := ⟨fun _ => by kernel_rfl, fun _ => by kernel_rfl⟩
instance : Scal Tryz.prog 38 := ⟨fun _ => by kernel_rfl, fun _ => by kernel_rfl⟩
instance : Scal Tryz.prog 49 := ⟨fun _ => by kernel_rfl, fun _ => by kernel_rfl⟩
instance : Scal Tryz.prog 59 := ⟨fun _ => by kernel_rfl, fun _ => by kernel_rfl⟩
instance : Scal Tryz.prog 91 := ⟨fun _ => by kernel_rfl, fun _ => by kernel_rfl⟩
instance : Scal Tryz.prog 92 := ⟨fun _ => by kernel_rfl, fun _ => by kernel_rfl⟩
instance : Scal Tryz.prog 119 := ⟨fun _ => by kernel_rfl, fun _ => by kernel_rfl⟩
instance : Scal Tryz.prog 121 := ⟨fun _ => by kernel_rfl, fun _ => by kernel_rfl⟩
instance : Scal Tryz.prog 127 := ⟨fun _ => by kernel_rfl, fun _ => by kernel_rfl⟩
instance : Scal Tryz.prog 184 := ⟨fun _ => by kernel_rfl, fun _ => by kernel_rfl⟩
instance : Scal Tryz.prog 192 := ⟨fun _ => by kernel_rfl, fun _ => by kernel_rfl⟩
instance : Scal Tryz.prog 205 := ⟨fun _ => by kernel_rfl, fun _ => by kernel_rfl⟩
instance : Scal Tryz.prog 232 := ⟨fun _ => by kernel_rfl, fun _ => by kernel_rfl⟩
instance : Scal Tryz.prog 255 := ⟨fun _ => by kernel_rfl, fun _ => by kernel_rfl⟩
instance : AggT Tryz.prog 24 3 := ⟨fun _ => by kernel_rfl, fun _ => by kernel_rfl⟩
instance : AggT Tryz.prog 48 2 := ⟨fun _ => by kernel_rfl, fun _ => by kernel_rfl⟩
instance : AggT Tryz.prog 51 6 := ⟨fun _ => by kernel_rfl, fun _ => by kernel_rfl⟩
instance : AggT Tryz.prog 69 3 := ⟨fun _ => by kernel_rfl, fun _ => by kernel_rfl⟩
instance : AggT Tryz.prog 71 5 := ⟨fun _ => by kernel_rfl, fun _ => by kernel_rfl⟩
instance : AggT Tryz.prog 74 5 := ⟨fun _ => by kernel_rfl, fun _ => by kernel_rfl⟩
instance : AggT Tryz.prog 77 3 := ⟨fun _ => by kernel_rfl, fun _ => by kernel_rfl⟩
instance : AggT Tryz.prog 79 5 := ⟨fun _ => by kernel_rfl, fun _ => by kernel_rfl⟩
instance : AggT Tryz.prog 98 4 := ⟨fun _ => by kernel_rfl, fun _ => by kernel_rfl⟩
instance : AggT Tryz.prog 113 4 := ⟨fun _ => by kernel_rfl, fun _ => by kernel_rfl⟩
instance : AggT Tryz.prog 231 3 := ⟨fun _ => by kernel_rfl, fun _ => by kernel_rfl⟩
instance : AggT Tryz.prog 271 8 := ⟨fun _ => by kernel_rfl, fun _ => by kernel_rfl⟩
instance : FOff Tryz.prog 24 0 0 := ⟨fun _ _ _ => by kernel_rfl⟩
instance : FOff Tryz.prog 24 1 1 := ⟨fun _ _ _ => by kernel_rfl⟩
instance : FOff Tryz.prog 24 2 2 := ⟨fun _ _ _ => by kernel_rfl⟩
instance : FOff Tryz.prog 48 0 0 := ⟨fun _ _ _ => by kernel_rfl⟩
instance : FOff Tryz.prog 48 1 1 := ⟨fun _ _ _ => by kernel_rfl⟩
instance : FOff Tryz.prog 51 0 0 := ⟨fun _ _ _ => by kernel_rfl⟩
instance : FOff Tryz.prog 51 1 1 := ⟨fun _ _ _ => by kernel_rfl⟩
instance : FOff Tryz.prog 51 2 3 := ⟨fun _ _ _ => by kernel_rfl⟩
instance : FOff Tryz.prog 51 3 4 := ⟨fun _ _ _ => by kernel_rfl⟩
instance : FOff Tryz.prog 51 4 5 := ⟨fun _ _ _ => by kernel_rfl⟩
instance : FOff Tryz.prog 69 0 0 := ⟨fun _ _ _ => by kernel_rfl⟩
instance : FOff Tryz.prog 69 1 1 := ⟨fun _ _ _ => by kernel_rfl⟩
instance : FOff Tryz.prog 69 2 2 := ⟨fun _ _ _ => by kernel_rfl⟩
instance : FOff Tryz.prog 71 0 0 := ⟨fun _ _ _ => by kernel_rfl⟩
instance : FOff Tryz.prog 71 1 2 := ⟨fun _ _ _ => by kernel_rfl⟩
instance : FOff Tryz.prog 74 0 0 := ⟨fun _ _ _ => by kernel_rfl⟩
instance : FOff Tryz.prog 74 1 1 := ⟨fun _ _ _ => by kernel_rfl⟩
instance : FOff Tryz.prog 74 2 2 := ⟨fun _ _ _ => by kernel_rfl⟩
instance : FOff Tryz.prog 74 3 3 := ⟨fun _ _ _ => by kernel_rfl⟩
instance : FOff Tryz.prog 74 4 4 := ⟨fun _ _ _ => by kernel_rfl⟩
instance : FOff Tryz.prog 77 0 0 := ⟨fun _ _ _ => by kernel_rfl⟩
instance : FOff Tryz.prog 77 1 1 := ⟨fun _ _ _ => by kernel_rfl⟩
instance : FOff Tryz.prog 77 2 2 := ⟨fun _ _ _ => by kernel_rfl⟩
instance : FOff Tryz.prog 79 0 0 := ⟨fun _ _ _ => by kernel_rfl⟩
instance : FOff Tryz.prog 79 1 2 := ⟨fun _ _ _ => by kernel_rfl⟩
instance : FOff Tryz.prog 98 0 0 := ⟨fun _ _ _ => by kernel_rfl⟩
instance : FOff Tryz.prog 98 1 1 := ⟨fun _ _ _ => by kernel_rfl⟩
instance : FOff Tryz.prog 98 2 2 := ⟨fun _ _ _ => by kernel_rfl⟩
instance : FOff Tryz.prog 98 3 3 := ⟨fun _ _ _ => by kernel_rfl⟩
instance : FOff Tryz.prog 113 0 0 := ⟨fun _ _ _ => by kernel_rfl⟩
instance : FOff Tryz.prog 113 1 1 := ⟨fun _ _ _ => by kernel_rfl⟩
instance : FOff Tryz.prog 113 2 2 := ⟨fun _ _ _ => by kernel_rfl⟩
instance : FOff Tryz.prog 113 3 3 := ⟨fun _ _ _ => by kernel_rfl⟩
instance : FOff Tryz.prog 123 0 0 := ⟨fun _ _ _ => by kernel_rfl⟩
instance : FOff Tryz.prog 123 1 3 := ⟨fun _ _ _ => by kernel_rfl⟩
instance : FOff Tryz.prog 123 2 4 := ⟨fun _ _ _ => by kernel_rfl⟩
instance : FOff Tryz.prog 123 3 5 := ⟨fun _ _ _ => by kernel_rfl⟩
instance : FOff Tryz.prog 123 4 6 := ⟨fun _ _ _ => by kernel_rfl⟩
instance : FOff Tryz.prog 123 5 7 := ⟨fun _ _ _ => by kernel_rfl⟩
instance : FOff Tryz.prog 123 6 8 := ⟨fun _ _ _ => by kernel_rfl⟩
instance : FOff Tryz.prog 123 7 9 := ⟨fun _ _ _ => by kernel_rfl⟩
instance : FOff Tryz.prog 186 0 0 := ⟨fun _ _ _ => by kernel_rfl⟩
instance : FOff Tryz.prog 186 1 4 := ⟨fun _ _ _ => by kernel_rfl⟩
instance : FOff Tryz.prog 186 2 5 := ⟨fun _ _ _ => by kernel_rfl⟩
instance : FOff Tryz.prog 186 3 6 := ⟨fun _ _ _ => by kernel_rfl⟩
instance : FOff Tryz.prog 186 4 7 := ⟨fun _ _ _ => by kernel_rfl⟩
instance : FOff Tryz.prog 186 5 8 := ⟨fun _ _ _ => by kernel_rfl⟩
instance : FOff Tryz.prog 186 6 9 := ⟨fun _ _ _ => by kernel_rfl⟩
instance : FOff Tryz.prog 186 7 10 := ⟨fun _ _ _ => by kernel_rfl⟩
instance : FOff Tryz.prog 198 0 0 := ⟨fun _ _ _ => by kernel_rfl⟩
instance : FOff Tryz.prog 198 1 4 := ⟨fun _ _ _ => by kernel_rfl⟩
instance : FOff Tryz.prog 198 2 5 := ⟨fun _ _ _ => by kernel_rfl⟩
instance : FOff Tryz.prog 198 3 6 := ⟨fun _ _ _ => by kernel_rfl⟩
instance : FOff Tryz.prog 198 4 7 := ⟨fun _ _ _ => by kernel_rfl⟩
instance : FOff Tryz.prog 198 5 8 := ⟨fun _ _ _ => by kernel_rfl⟩
instance : FOff Tryz.prog 207 0 0 := ⟨fun _ _ _ => by kernel_rfl⟩
instance : FOff Tryz.prog 207 1 1 := ⟨fun _ _ _ => by kernel_rfl⟩
instance : FOff Tryz.prog 234 0 0 := ⟨fun _ _ _ => by kernel_rfl⟩
instance : FOff Tryz.prog 234 1 4 := ⟨fun _ _ _ => by kernel_rfl⟩
instance : FOff Tryz.prog 234 2 7 := ⟨fun _ _ _ => by kernel_rfl⟩
instance : FOff Tryz.prog 234 3 8 := ⟨fun _ _ _ => by kernel_rfl⟩
instance : FOff Tryz.prog 234 4 9 := ⟨fun _ _ _ => by kernel_rfl⟩
instance : FOff Tryz.prog 234 5 10 := ⟨fun _ _ _ => by kernel_rfl⟩
instance : FOff Tryz.prog 234 6 11 := ⟨fun _ _ _ => by kernel_rfl⟩
instance : FOff Tryz.prog 265 0 0 := ⟨fun _ _ _ => by kernel_rfl⟩
instance : FOff Tryz.prog 265 1 1 := ⟨fun _ _ _ => by kernel_rfl⟩
instance : FOff Tryz.prog 265 2 2 := ⟨fun _ _ _ => by kernel_rfl⟩
instance : FOff Tryz.prog 265 3 3 := ⟨fun _ _ _ => by kernel_rfl⟩
instance : FOff Tryz.prog 265 4 4 := ⟨fun _ _ _ => by kernel_rfl⟩
instance : FOff Tryz.prog 265 5 5 := ⟨fun _ _ _ => by kernel_rfl⟩
instance : FVal Tryz.prog 48 0 0 := ⟨fun cs v w h => by
  have e : (Instr.field 48 (.agg cs) 0).run Tryz.prog w = (match cs[0]? with | some v => (pure v : Sem Value) | none => stuck "part: no such cell").run Tryz.prog w := by kernel_rfl
  rw [e, h]; rfl⟩
instance : ZeroT Tryz.prog 22 [.slice none 0 0] := ⟨fun _ => .inr ⟨.slice none 0 0, by kernel_rfl, rfl⟩⟩
instance : ZeroT Tryz.prog 24 [.int .i64 0, .int .i64 0, .int .i64 0] := ⟨fun _ => .inl (by kernel_rfl)⟩
instance : ZeroT Tryz.prog 26 [.slice none 0 0] := ⟨fun _ => .inr ⟨.slice none 0 0, by kernel_rfl, rfl⟩⟩
instance : ZeroT Tryz.prog 48 [.int .i64 0, .int .i64 0] := ⟨fun _ => .inl (by kernel_rfl)⟩
instance : ZeroT Tryz.prog 49 [.slice none 0 0] := ⟨fun _ => .inr ⟨.slice none 0 0, by kernel_rfl, rfl⟩⟩
instance : ZeroT Tryz.prog 51 [.int .i64 0, .int .i64 0, .int .i64 0, .int .i64 0, .int .i64 0, .slice none 0 0] := ⟨fun _ => .inl (by kernel_rfl)⟩
instance : ZeroT Tryz.prog 59 [.slice none 0 0] := ⟨fun _ => .inr ⟨.slice none 0 0, by kernel_rfl, rfl⟩⟩
instance : ZeroT Tryz.prog 69 [.int .i64 0, .int .i64 0, .slice none 0 0] := ⟨fun _ => .inl (by kernel_rfl)⟩
instance : ZeroT Tryz.prog 71 [.int .i64 0, .int .i64 0, .int .i64 0, .int .i64 0, .slice none 0 0] := ⟨fun _ => .inl (by kernel_rfl)⟩
instance : ZeroT Tryz.prog 79 [.int .i64 0, .int .i64 0, .int .i64 0, .int .i64 0, .slice none 0 0] := ⟨fun _ => .inl (by kernel_rfl)⟩
instance : ZeroT Tryz.prog 98 [.int .i64 0, .int .i64 0, .int .i64 0, .int .i64 0] := ⟨fun _ => .inl (by kernel_rfl)⟩
instance : ZeroT Tryz.prog 113 [.int .i64 0, .int .i64 0, .int .i64 0, .int .i64 0] := ⟨fun _ => .inl (by kernel_rfl)⟩
instance : ZeroT Tryz.prog 207 [.pointer none, .slice none 0 0] := ⟨fun _ => .inl (by kernel_rfl)⟩
instance : ZeroT Tryz.prog 231 [.int .i64 0, .int .i64 0, .int .i64 0] := ⟨fun _ => .inl (by kernel_rfl)⟩
instance : ZeroT Tryz.prog 271 [.int .i64 0, .int .i64 0, .int .i64 0, .int .i64 0, .int .i64 0, .int .i64 0, .int .i64 0, .int .i64 0] := ⟨fun _ => .inl (by kernel_rfl)⟩
instance : BldT Tryz.prog 24 [.int .i64 0, .int .i64 0, .int .i64 0] [(0, 1), (1, 1), (2, 1)] := ⟨fun _ => by kernel_rfl⟩
instance : BldT Tryz.prog 48 [.int .i64 0, .int .i64 0] [(0, 1), (1, 1)] := ⟨fun _ => by kernel_rfl⟩
instance : BldT Tryz.prog 51 [.int .i64 0, .int .i64 0, .int .i64 0, .int .i64 0, .int .i64 0, .slice none 0 0] [(0, 1), (1, 2), (3, 1), (4, 1), (5, 1)] := ⟨fun _ => by kernel_rfl⟩
instance : BldT Tryz.prog 69 [.int .i64 0, .int .i64 0, .slice none 0 0] [(0, 1), (1, 1), (2, 1)] := ⟨fun _ => by kernel_rfl⟩
instance : BldT Tryz.prog 71 [.int .i64 0, .int .i64 0, .int .i64 0, .int .i64 0, .slice none 0 0] [(0, 2), (2, 3)] := ⟨fun _ => by kernel_rfl⟩
instance : BldT Tryz.prog 77 [.int .i64 0, .int .i64 0, .slice none 0 0] [(0, 1), (1, 1), (2, 1)] := ⟨fun _ => by kernel_rfl⟩
instance : BldT Tryz.prog 79 [.int .i64 0, .int .i64 0, .int .i64 0, .int .i64 0, .slice none 0 0] [(0, 2), (2, 3)] := ⟨fun _ => by kernel_rfl⟩
instance : BldT Tryz.prog 98 [.int .i64 0, .int .i64 0, .int .i64 0, .int .i64 0] [(0, 1), (1, 1), (2, 1), (3, 1)] := ⟨fun _ => by kernel_rfl⟩
instance : BldT Tryz.prog 113 [.int .i64 0, .int .i64 0, .int .i64 0, .int .i64 0] [(0, 1), (1, 1), (2, 1), (3, 1)] := ⟨fun _ => by kernel_rfl⟩
instance : BldT Tryz.prog 123 [.int .i64 0, .int .i64 0, .int .i64 0, .nilFunc, .pointer none, .nilIface, .int .i64 0, .int .i64 0, .bool false, .int .i64 0] [(0, 3), (3, 1), (4, 1), (5, 1), (6, 1), (7, 1), (8, 1), (9, 1)] := ⟨fun _ => by kernel_rfl⟩
instance : BldT Tryz.prog 186 [.int .i64 0, .int .i64 0, .int .i64 0, .int .i64 0, .nilFunc, .int .i64 0, .slice none 0 0, .slice none 0 0, .int .i64 0, .int .i64 0, .int .i64 0] [(0, 4), (4, 1), (5, 1), (6, 1), (7, 1), (8, 1), (9, 1), (10, 1)] := ⟨fun _ => by kernel_rfl⟩
instance : BldT Tryz.prog 198 [.int .i64 0, .int .i64 0, .int .i64 0, .int .i64 0, .slice none 0 0, .int .i64 0, .int .i64 0, .int .i64 0, .int .i64 0] [(0, 4), (4, 1), (5, 1), (6, 1), (7, 1), (8, 1)] := ⟨fun _ => by kernel_rfl⟩
instance : BldT Tryz.prog 231 [.int .i64 0, .int .i64 0, .int .i64 0] [(0, 1), (1, 1), (2, 1)] := ⟨fun vs => (show Tryz.prog.built 231 vs = Instr.fill (fun i => some (i * 1, 1)) #[.int .i64 0, .int .i64 0, .int .i64 0] vs by kernel_rfl).trans (fill_arr 3 vs _ rfl)⟩
instance : BldT Tryz.prog 234 [.int .i64 0, .int .i64 0, .int .i64 0, .int .i64 0, .int .i64 0, .int .i64 0, .int .i64 0, .int .i64 0, .int .i64 0, .pointer none, .int .i64 0, .int .i64 0] [(0, 4), (4, 3), (7, 1), (8, 1), (9, 1), (10, 1), (11, 1)] := ⟨fun _ => by kernel_rfl⟩
instance : BldT Tryz.prog 265 [.nilFunc, .int .i64 0, .int .i64 0, .bool false, .int .i64 0, .int .i64 0] [(0, 1), (1, 1), (2, 1), (3, 1), (4, 1), (5, 1)] := ⟨fun _ => by kernel_rfl⟩
instance : SlT Tryz.prog 22 5 1 1 (.int .u8 0) := ⟨by kernel_rfl, by kernel_rfl⟩
instance : SlT Tryz.prog 25 74 5 56 (.agg #[.bool false, .int .i64 0, .int .i64 0, .int .i64 0, .slice none 0 0]) := ⟨by kernel_rfl, by kernel_rfl⟩
instance : SlT Tryz.prog 26 3 1 8 (.int .i64 0) := ⟨by kernel_rfl, by kernel_rfl⟩
instance : SlT Tryz.prog 30 71 5 56 (.agg #[.int .i64 0, .int .i64 0, .int .i64 0, .int .i64 0, .slice none 0 0]) := ⟨by kernel_rfl, by kernel_rfl⟩
instance : SlT Tryz.prog 37 51 6 64 (.agg #[.int .i64 0, .int .i64 0, .int .i64 0, .int .i64 0, .int .i64 0, .slice none 0 0]) := ⟨by kernel_rfl, by kernel_rfl⟩
instance : SlT Tryz.prog 49 92 1 8 (.int .u64 0) := ⟨by kernel_rfl, by kernel_rfl⟩
instance : SlT Tryz.prog 59 79 5 56 (.agg #[.int .i64 0, .int .i64 0, .int .i64 0, .int .i64 0, .slice none 0 0]) := ⟨by kernel_rfl, by kernel_rfl⟩
instance : SlT Tryz.prog 214 9 1 16 (.string ⟨#[]⟩) := ⟨by kernel_rfl, by kernel_rfl⟩
instance : SlT Tryz.prog 256 255 1 8 (.pointer none) := ⟨by kernel_rfl, by kernel_rfl⟩
instance : ArT Tryz.prog 231 3 3 := ⟨by kernel_rfl, fun _ => by kernel_rfl⟩
instance : ArT Tryz.prog 271 8 3 := ⟨by kernel_rfl, fun _ => by kernel_rfl⟩
instance : IntT Tryz.prog 3 .i64 := ⟨by kernel_rfl⟩
instance : IntT Tryz.prog 5 .u8 := ⟨by kernel_rfl⟩
instance : IntT Tryz.prog 91 .u64 := ⟨by kernel_rfl⟩
instance : IntT Tryz.prog 92 .u64 := ⟨by kernel_rfl⟩
instance : Ent1 Tryz.prog 16 := ⟨enters_of Tryz.func16 (by kernel_rfl) rfl⟩
instance : Ent1 Tryz.prog 17 := ⟨enters_of Tryz.func17 (by kernel_rfl) rfl⟩
instance : Ent1 Tryz.prog 18 := ⟨enters_of Tryz.func18 (by kernel_rfl) rfl⟩
instance : Ent1 Tryz.prog 20 := ⟨enters_of Tryz.func20 (by kernel_rfl) rfl⟩
instance : Ent1 Tryz.prog 21 := ⟨enters_of Tryz.func21 (by kernel_rfl) rfl⟩
instance : Ent1 Tryz.prog 22 := ⟨enters_of Tryz.func22 (by kernel_rfl) rfl⟩
instance : Ent1 Tryz.prog 24 := ⟨enters_of Tryz.func24 (by kernel_rfl) rfl⟩
instance : Ent1 Tryz.prog 25 := ⟨enters_of Tryz.func25 (by kernel_rfl) rfl⟩
instance : Ent1 Tryz.prog 26 := ⟨enters_of Tryz.func26 (by kernel_rfl) rfl⟩
instance : Ent1 Tryz.prog 27 := ⟨enters_of Tryz.func27 (by kernel_rfl) rfl⟩
instance : Ent1 Tryz.prog 28 := ⟨enters_of Tryz.func28 (by kernel_rfl) rfl⟩
instance : Ent1 Tryz.prog 29 := ⟨enters_of Tryz.func29 (by kernel_rfl) rfl⟩
instance : Ent1 Tryz.prog 30 := ⟨enters_of Tryz.func30 (by kernel_rfl) rfl⟩
instance : Ent1 Tryz.prog 31 := ⟨enters_of Tryz.func31 (by kernel_rfl) rfl⟩
instance : Ent1 Tryz.prog 32 := ⟨enters_of Tryz.func32 (by kernel_rfl) rfl⟩
instance : Ent1 Tryz.prog 33 := ⟨enters_of Tryz.func33 (by kernel_rfl) rfl⟩
instance : Ent1 Tryz.prog 34 := ⟨enters_of Tryz.func34 (by kernel_rfl) rfl⟩
instance : Ent1 Tryz.prog 35 := ⟨enters_of Tryz.func35 (by kernel_rfl) rfl⟩
instance : Ent1 Tryz.prog 36 := ⟨enters_of Tryz.func36 (by kernel_rfl) rfl⟩
instance : Ent1 Tryz.prog 40 := ⟨enters_of Tryz.func40 (by kernel_rfl) rfl⟩
instance : Ent1 Tryz.prog 44 := ⟨enters_of Tryz.func44 (by kernel_rfl) rfl⟩
instance : Ent1 Tryz.prog 45 := ⟨enters_of Tryz.func45 (by kernel_rfl) rfl⟩
instance : Ent1 Tryz.prog 47 := ⟨enters_of Tryz.func47 (by kernel_rfl) rfl⟩
instance : Ent1 Tryz.prog 48 := ⟨enters_of Tryz.func48 (by kernel_rfl) rfl⟩
instance : Ent1 Tryz.prog 49 := ⟨enters_of Tryz.func49 (by kernel_rfl) rfl⟩
instance : Ent1 Tryz.prog 57 := ⟨enters_of Tryz.func57 (by kernel_rfl) rfl⟩
instance : Ent1 Tryz.prog 60 := ⟨enters_of Tryz.func60 (by kernel_rfl) rfl⟩
instance : Ent1 Tryz.prog 61 := ⟨enters_of Tryz.func61 (by kernel_rfl) rfl⟩
instance : Ent1 Tryz.prog 62 := ⟨enters_of Tryz.func62 (by kernel_rfl) rfl⟩
instance : Ent1 Tryz.prog 63 := ⟨enters_of Tryz.func63 (by kernel_rfl) rfl⟩
instance : Ent1 Tryz.prog 64 := ⟨enters_of Tryz.func64 (by kernel_rfl) rfl⟩
instance : Ent1 Tryz.prog 65 := ⟨enters_of Tryz.func65 (by kernel_rfl) rfl⟩
instance : Ent1 Tryz.prog 66 := ⟨enters_of Tryz.func66 (by kernel_rfl) rfl⟩
instance : Ent1 Tryz.prog 67 := ⟨enters_of Tryz.func67 (by kernel_rfl) rfl⟩
instance : Ent1 Tryz.prog 68 := ⟨enters_of Tryz.func68 (by kernel_rfl) rfl⟩
instance : Ent1 Tryz.prog 69 := ⟨enters_of Tryz.func69 (by kernel_rfl) rfl⟩
instance : Ent1 Tryz.prog 70 := ⟨enters_of Tryz.func70 (by kernel_rfl) rfl⟩
instance : Ent1 Tryz.prog 71 := ⟨enters_of Tryz.func71 (by kernel_rfl) rfl⟩
instance : Ent1 Tryz.prog 72 := ⟨enters_of Tryz.func72 (by kernel_rfl) rfl⟩
instance : Ent1 Tryz.prog 73 := ⟨enters_of Tryz.func73 (by kernel_rfl) rfl⟩
instance : Ent1 Tryz.prog 75 := ⟨enters_of Tryz.func75 (by kernel_rfl) rfl⟩
instance : Ent1 Tryz.prog 76 := ⟨enters_of Tryz.func76 (by kernel_rfl) rfl⟩
instance : Ent1 Tryz.prog 79 := ⟨enters_of Tryz.func79 (by kernel_rfl) rfl⟩
instance : Ent1 Tryz.prog 83 := ⟨enters_of Tryz.func83 (by kernel_rfl) rfl⟩
instance : Ent1 Tryz.prog 84 := ⟨enters_of Tryz.func84 (by kernel_rfl) rfl⟩
instance : Ent1 Tryz.prog 85 := ⟨enters_of Tryz.func85 (by kernel_rfl) rfl⟩
instance : Ent1 Tryz.prog 86 := ⟨enters_of Tryz.func86 (by kernel_rfl) rfl⟩
instance : Ent1 Tryz.prog 87 := ⟨enters_of Tryz.func87 (by kernel_rfl) rfl⟩
instance : Ent1 Tryz.prog 88 := ⟨enters_of Tryz.func88 (by kernel_rfl) rfl⟩
instance : Ent1 Tryz.prog 89 := ⟨enters_of Tryz.func89 (by kernel_rfl) rfl⟩
instance : Ent1 Tryz.prog 90 := ⟨enters_of Tryz.func90 (by kernel_rfl) rfl⟩
instance : Ent1 Tryz.prog 91 := ⟨enters_of Tryz.func91 (by kernel_rfl) rfl⟩
instance : Ent1 Tryz.prog 92 := ⟨enters_of Tryz.func92 (by kernel_rfl) rfl⟩
instance : Ent1 Tryz.prog 98 := ⟨enters_of Tryz.func98 (by kernel_rfl) rfl⟩
instance : Ent1 Tryz.prog 99 := ⟨enters_of Tryz.func99 (by kernel_rfl) rfl⟩
instance : Ent1 Tryz.prog 100 := ⟨enters_of Tryz.func100 (by kernel_rfl) rfl⟩
instance : Ent1 Tryz.prog 101 := ⟨enters_of Tryz.func101 (by kernel_rfl) rfl⟩
instance : Ent1 Tryz.prog 111 := ⟨enters_of Tryz.func111 (by kernel_rfl) rfl⟩
instance : Ent1 Tryz.prog 112 := ⟨enters_of Tryz.func112 (by kernel_rfl) rfl⟩
instance : Ent1 Tryz.prog 113 := ⟨enters_of Tryz.func113 (by kernel_rfl) rfl⟩
instance : Ent1 Tryz.prog 114 := ⟨enters_of Tryz.func114 (by kernel_rfl) rfl⟩
instance : Ent1 Tryz.prog 115 := ⟨enters_of Tryz.func115 (by kernel_rfl) rfl⟩
instance : Ent1 Tryz.prog 116 := ⟨enters_of Tryz.func116 (by kernel_rfl) rfl⟩
instance : Ent1 Tryz.prog 117 := ⟨enters_of Tryz.func117 (by kernel_rfl) rfl⟩
instance : Ent1 Tryz.prog 118 := ⟨enters_of Tryz.func118 (by kernel_rfl) rfl⟩
instance : Ent1 Tryz.prog 119 := ⟨enters_of Tryz.func119 (by kernel_rfl) rfl⟩
instance : Ent1 Tryz.prog 120 := ⟨enters_of Tryz.func120 (by kernel_rfl) rfl⟩
instance : Ent1 Tryz.prog 121 := ⟨enters_of Tryz.func121 (by kernel_rfl) rfl⟩
instance : Ent1 Tryz.prog 122 := ⟨enters_of Tryz.func122 (by kernel_rfl) rfl⟩
instance : Ent1 Tryz.prog 123 := ⟨enters_of Tryz.func123 (by kernel_rfl) rfl⟩
instance : Ent1 Tryz.prog 124 := ⟨enters_of Tryz.func124 (by kernel_rfl) rfl⟩
instance : Ent1 Tryz.prog 126 := ⟨enters_of Tryz.func126 (by kernel_rfl) rfl⟩
instance : Ent1 Tryz.prog 129 := ⟨enters_of Tryz.func129 (by kernel_rfl) rfl⟩
instance : Ent1 Tryz.prog 130 := ⟨enters_of Tryz.func130 (by kernel_rfl) rfl⟩
instance : Ent1 Tryz.prog 131 := ⟨enters_of Tryz.func131 (by kernel_rfl) rfl⟩
instance : Ent1 Tryz.prog 132 := ⟨enters_of Tryz.func132 (by kernel_rfl) rfl⟩
instance : Ent1 Tryz.prog 133 := ⟨enters_of Tryz.func133 (by kernel_rfl) rfl⟩
instance : Ent1 Tryz.prog 134 := ⟨enters_of Tryz.func134 (by kernel_rfl) rfl⟩
instance : Ent1 Tryz.prog 135 := ⟨enters_of Tryz.func135 (by kernel_rfl) rfl⟩
instance : Ent1 Tryz.prog 136 := ⟨enters_of Tryz.func136 (by kernel_rfl) rfl⟩
instance : Ent1 Tryz.prog 137 := ⟨enters_of Tryz.func137 (by kernel_rfl) rfl⟩
instance : Ent1 Tryz.prog 138 := ⟨enters_of Tryz.func138 (by kernel_rfl) rfl⟩
instance : Ent1 Tryz.prog 139 := ⟨enters_of Tryz.func139 (by kernel_rfl) rfl⟩
instance : Ent1 Tryz.prog 140 := ⟨enters_of Tryz.func140 (by kernel_rfl) rfl⟩
instance : Ent1 Tryz.prog 141 := ⟨enters_of Tryz.func141 (by kernel_rfl) rfl⟩
instance : Ent1 Tryz.prog 142 := ⟨enters_of Tryz.func142 (by kernel_rfl) rfl⟩
instance : Ent1 Tryz.prog 143 := ⟨enters_of Tryz.func143 (by kernel_rfl) rfl⟩
instance : Ent1 Tryz.prog 144 := ⟨enters_of Tryz.func144 (by kernel_rfl) rfl⟩
instance : Ent1 Tryz.prog 145 := ⟨enters_of Tryz.func145 (by kernel_rfl) rfl⟩
instance : Ent1 Tryz.prog 146 := ⟨enters_of Tryz.func146 (by kernel_rfl) rfl⟩
instance : Ent1 Tryz.prog 147 := ⟨enters_of Tryz.func147 (by kernel_rfl) rfl⟩
instance : Ent1 Tryz.prog 154 := ⟨enters_of Tryz.func154 (by kernel_rfl) rfl⟩
instance : Ent1 Tryz.prog 161 := ⟨enters_of Tryz.func161 (by kernel_rfl) rfl⟩
instance : Ent1 Tryz.prog 162 := ⟨enters_of Tryz.func162 (by kernel_rfl) rfl⟩
instance : Ent1 Tryz.prog 163 := ⟨enters_of Tryz.func163 (by kernel_rfl) rfl⟩
instance : Ent1 Tryz.prog 164 := ⟨enters_of Tryz.func164 (by kernel_rfl) rfl⟩
instance : Ent1 Tryz.prog 165 := ⟨enters_of Tryz.func165 (by kernel_rfl) rfl⟩
instance : Ent1 Tryz.prog 166 := ⟨enters_of Tryz.func166 (by kernel_rfl) rfl⟩
instance : Ent1 Tryz.prog 167 := ⟨enters_of Tryz.func167 (by kernel_rfl) rfl⟩
instance : Ent1 Tryz.prog 168 := ⟨enters_of Tryz.func168 (by kernel_rfl) rfl⟩
instance : Ent1 Tryz.prog 169 := ⟨enters_of Tryz.func169 (by kernel_rfl) rfl⟩
instance : Ent1 Tryz.prog 170 := ⟨enters_of Tryz.func170 (by kernel_rfl) rfl⟩
instance : Ent1 Tryz.prog 171 := ⟨enters_of Tryz.func171 (by kernel_rfl) rfl⟩
instance : Ent1 Tryz.prog 172 := ⟨enters_of Tryz.func172 (by kernel_rfl) rfl⟩
instance : Ent1 Tryz.prog 173 := ⟨enters_of Tryz.func173 (by kernel_rfl) rfl⟩
instance : Ent1 Tryz.prog 174 := ⟨enters_of Tryz.func174 (by kernel_rfl) rfl⟩
instance : Ent1 Tryz.prog 175 := ⟨enters_of Tryz.func175 (by kernel_rfl) rfl⟩
instance : Ent1 Tryz.prog 176 := ⟨enters_of Tryz.func176 (by kernel_rfl) rfl⟩
instance : Ent1 Tryz.prog 177 := ⟨enters_of Tryz.func177 (by kernel_rfl) rfl⟩
instance : Ent1 Tryz.prog 178 := ⟨enters_of Tryz.func178 (by kernel_rfl) rfl⟩
instance : Ent1 Tryz.prog 179 := ⟨enters_of Tryz.func179 (by kernel_rfl) rfl⟩
instance : Ent1 Tryz.prog 181 := ⟨enters_of Tryz.func181 (by kernel_rfl) rfl⟩
instance : Ent1 Tryz.prog 182 := ⟨enters_of Tryz.func182 (by kernel_rfl) rfl⟩
instance : Ent1 Tryz.prog 186 := ⟨enters_of Tryz.func186 (by kernel_rfl) rfl⟩
instance : Ent1 Tryz.prog 190 := ⟨enters_of Tryz.func190 (by kernel_rfl) rfl⟩
instance : Ent1 Tryz.prog 191 := ⟨enters_of Tryz.func191 (by kernel_rfl) rfl⟩
instance : Ent1 Tryz.prog 192 := ⟨enters_of Tryz.func192 (by kernel_rfl) rfl⟩
instance : Ent1 Tryz.prog 193 := ⟨enters_of Tryz.func193 (by kernel_rfl) rfl⟩
instance : Ent1 Tryz.prog 194 := ⟨enters_of Tryz.func194 (by kernel_rfl) rfl⟩
instance : Ent1 Tryz.prog 195 := ⟨enters_of Tryz.func195 (by kernel_rfl) rfl⟩
instance : Ent1 Tryz.prog 196 := ⟨enters_of Tryz.func196 (by kernel_rfl) rfl⟩
instance : Ent1 Tryz.prog 197 := ⟨enters_of Tryz.func197 (by kernel_rfl) rfl⟩
instance : Ent1 Tryz.prog 202 := ⟨enters_of Tryz.func202 (by kernel_rfl) rfl⟩
instance : Ent1 Tryz.prog 203 := ⟨enters_of Tryz.func203 (by kernel_rfl) rfl⟩
instance : Ent1 Tryz.prog 204 := ⟨enters_of Tryz.func204 (by kernel_rfl) rfl⟩
instance : Ent1 Tryz.prog 206 := ⟨enters_of Tryz.func206 (by kernel_rfl) rfl⟩
instance : Ent1 Tryz.prog 207 := ⟨enters_of Tryz.func207 (by kernel_rfl) rfl⟩
instance : Ent1 Tryz.prog 208 := ⟨enters_of Tryz.func208 (by kernel_rfl) rfl⟩
instance : Ent1 Tryz.prog 209 := ⟨enters_of Tryz.func209 (by kernel_rfl) rfl⟩
instance : Ent1 Tryz.prog 210 := ⟨enters_of Tryz.func210 (by kernel_rfl) rfl⟩
instance : Ent1 Tryz.prog 211 := ⟨enters_of Tryz.func211 (by kernel_rfl) rfl⟩
instance : Ent1 Tryz.prog 212 := ⟨enters_of Tryz.func212 (by kernel_rfl) rfl⟩
end Go.Proofs.YtggamdlpiejbiaaGreat
