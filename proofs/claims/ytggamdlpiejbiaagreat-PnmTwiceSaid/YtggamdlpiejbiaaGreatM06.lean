/- Walks and plain laws, a part of the proof of PnmTwice: every input that the law's guards let in, no condition beside. -/
import Derived.ProofKit
import Derived.OpenShut
import Derived.ShutString
import Derived.ChangeOld
import Derived.Below
import Derived.Lib.SmallJoins
import Derived.ChangeArms
import Derived.Test.YtggamdlpiejbiaaGreatProg
import Derived.KernelRfl
import Derived.Shelf.Strings.Builder1
import Derived.Shelf.Strings.OnBuilder
import Derived.Shelf.Small.Strs
import Derived.Shelf.Strings.Search1
import Derived.Test.YtggamdlpiejbiaaGreatM05
namespace Go.Proofs.YtggamdlpiejbiaaGreat
open Go.RowKit Go.Shelf
def rcR {α : Type} (T s Tx : Nat) (cs : α → Option Addr → Nat → List Value) (row : α → List Int) (a : Option Addr) (c : Nat) (es : List α) : HP :=
  exs fun l : List (α × Option Addr × Nat) => [pur (l.map (·.1) = es), own T s a c es.length (l.flatMap fun r => cs r.1 r.2.1 r.2.2), Zc (l.map fun r => own Tx 1 r.2.1 r.2.2 (row r.1).length (XG (row r.1)))]
theorem Ent.many_snoc {L : List HP} {A : HP} {F : List HP} : Ent (Zc L :: A :: F) (Zc (L ++ [A]) :: F) := by
  refine Ent.trans Z9 ?_
  refine Ent.many ?_
  rw [List.append_assoc]
  exact Ent.refl _
theorem Ent.many_app {L M : List HP} {F : List HP} : Ent (Zc L :: Zc M :: F) (Zc (L ++ M) :: F) := by
  refine Ent.trans (Ent.trans Ent.swap Z9) ?_
  refine Ent.trans (Ent.comm (l := M)) ?_
  refine Ent.trans (m := L ++ (F ++ M)) ?_ ?_
  · have : Zc L :: F ++ M = Zc L :: (F ++ M) := rfl
    rw [this]; exact Z9
  · refine Ent.many ?_
    rw [List.append_assoc]
    intro w U h
    obtain ⟨V, hV, h1, h2⟩ := h.split
    refine YR h1 (fun b hb => (hV b hb).1) ?_
    obtain ⟨V2, hV2, h3, h4⟩ := h2.split
    exact YR (l := M) (V := fun b => (U b ∧ ¬ V b) ∧ ¬ V2 b) h4 (fun b hb => hb.1) (h3.mono fun b hb => ⟨(hV2 b hb).1, fun q => q.2 hb⟩)
theorem Ent.mem {A : HP} : ∀ {L : List HP}, A ∈ L → Ent L [A]
  | B :: L, h => by
    rcases List.mem_cons.1 h with rfl | h
    · exact Ent.cons (Ent.nil _)
    · exact Ent.drop (Ent.mem h)
theorem many_mem {A : HP} {L : List HP} (h : A ∈ L) : Ent [Zc L] [A] := Ent.trans (Ent.trans Z9 (by rw [List.append_nil]; exact Ent.refl _)) (Ent.mem h)
/-- The row of one of them is read. -/
theorem rc_row {α : Type} {Tx : Nat} {row : α → List Int} {l : List (α × Option Addr × Nat)} {r : α × Option Addr × Nat} (h : r ∈ l) : RdsL [Zc (l.map fun r => own Tx 1 r.2.1 r.2.2 (row r.1).length (XG (row r.1)))] r.2.1 (XG (row r.1)) :=
  RdsL.ent (Q4 (T := Tx) (s := 1) (c := r.2.2) (m := (row r.1).length)) (many_mem (List.mem_map_of_mem h))
theorem ZX {α : Type} {T s Tx : Nat} {cs : α → Option Addr → Nat → List Value} {row : α → List Int} {l F : List HP} (h : Ent l F) : Ent l (rcR T s Tx cs row none 0 [] :: F) :=
by unfold rcR; exact Ent.exs [] (Ent.pur rfl (Ent.own_nil (Ent.many h)))
/-- A row's pointer, if the row is not empty. -/
theorem Wp.ownSomeN {P : Program} {n : Cx} {D : List Deferred} {Q : Post} {fr : Fr} {l : List HP} {T s c m : Nat} {a : Option Addr} {xs : List Value} {F : List HP} {co : Code} (ht : Take1 l (own T s a c m xs) F) (k : (xs ≠ [] → ∃ g, a = some ⟨g, 0, none⟩) → Wp P n D co Q fr l) : Wp P n D co Q fr l := fun A w U hh hs => by
  refine k (fun hne => ?_) A w U hh hs
  obtain ⟨S, hp, _⟩ := ht.ent w U hs
  rcases YF hp with ⟨_, _, _, e⟩ | ⟨g, cur, e, _⟩
  · exact absurd e hne
  · exact ⟨g, e⟩
section
variable {P : Program} {n : Cx} {D : List Deferred} {ops : Array Oper} {rest : List Oper} {Q : Post} {fr : Fr} {l : List HP} {ty : Nat} {pos : String} {aft : Array Edge}
/-- append(s, x), x a struct with a row of its own, which goes along. -/
theorem Yc {α : Type} {d t e s by_ Tx : Nat} {z : Value} {x y : Operand} {cs : α → Option Addr → Nat → List Value} {row : α → List Int} {a a3 : Option Addr} {c c2 c3 g2 T2 : Nat} {es : List α} {news : List Value} {F : List HP} (v : α) (hd : Nat.blt d n = true) [ht : SlT P t e s by_ z]
    (hx : ev fr x = some (.slice a es.length c)) (hy : ev fr y = some (.slice (some ⟨g2, 0, none⟩) 1 c2)) (htk : Take l [rcR e s Tx cs row a c es, QD g2 news T2, own Tx 1 a3 c3 (row v).length (XG (row v))] F) (hnw : news = cs v a3 c3)
    (hz : z.cells.size = s) (hs : Nat.blt 0 s = true) (hl : news.length = s) (h1 : news.all Value.oneCell' = true) (hb : (es.length + 1) * by_ ≤ 140737488355328) (hm : es.length + 1 ≤ 140737488355328)
    (k : ∀ a' c', WpL P n D ops rest Q ((d, .slice a' (es ++ [v]).length c') :: fr) (rcR e s Tx cs row a' c' (es ++ [v]) :: F)) : WpL P n D ops (⟨some d, .call ⟨.builtin .append, #[x, y], #[t, t]⟩, ty, pos, aft, none⟩ :: rest) Q fr l := by
  refine WpL.ent htk.ent (WpL.exs .here fun L => ?_)
  refine WpL.pur .here fun hL => ?_
  subst hnw
  refine XC (T2 := T2) (news := cs v a3 c3) (xs := L.flatMap fun r => cs r.1 r.2.1 r.2.2) (F := [Zc (L.map fun r => own Tx 1 r.2.1 r.2.2 (row r.1).length (XG (row r.1))), own Tx 1 a3 c3 (row v).length (XG (row v))] ++ F) hd hx hy (Take.cons .here (Take.cons (.there .here) .nil)) hz hs (by rw [hl, Nat.one_mul]) h1 hb hm fun a' c' => ?_
  have hlen : (es ++ [v]).length = es.length + 1 := by simp
  have hk := k a' c'
  rw [hlen] at hk
  refine WpL.ent ?_ hk
  refine Ent.trans (Ent.cons Ent.many_snoc) ?_
  refine Ent.exs (L ++ [(v, a3, c3)]) (Ent.pur (by rw [List.map_append, hL]; rfl) ?_)
  rw [List.flatMap_append, List.map_append, hlen]
  simp only [List.flatMap_cons, List.flatMap_nil, List.append_nil]
  exact Ent.refl _
/-- append(s, t...), t a row that is read, be it empty. -/
theorem s_appR {d t e s by_ : Nat} {z : Value} {x y : Operand} {a a2 : Option Addr} {c m c2 m2 : Nat} {xs ys : List Value} {As F : List HP} (hd : Nat.blt d n = true) [ht : SlT P t e s by_ z] (hx : ev fr x = some (.slice a m c)) (hy : ev fr y = some (.slice a2 m2 c2))
    (htk : Take l [own e s a c m xs] F) (hA : RdsL As a2 ys) (he : Ent l As) (hl : ys.length = m2 * s) (hz : z.cells.size = s) (hs : Nat.blt 0 s = true) (h1 : ∀ u ∈ ys, u.oneCell' = true) (hb : (m + m2) * by_ ≤ 140737488355328) (hm : m + m2 ≤ 140737488355328)
    (k : ∀ a' c', WpL P n D ops rest Q ((d, .slice a' (m + m2) c') :: fr) (own e s a' c' (m + m2) (xs ++ ys) :: F)) : WpL P n D ops (⟨some d, .call ⟨.builtin .append, #[x, y], #[t, t]⟩, ty, pos, aft, none⟩ :: rest) Q fr l := by
  by_cases hne : ys = []
  · subst hne
    have hm2 : m2 = 0 := by
      have := Eq.mp Nat.blt_eq hs
      rcases Nat.mul_eq_zero.1 hl.symm with h | h <;> omega
    subst hm2
    refine Yz (σ := Option Addr × Nat) hd (fun p => .slice p.1 (m + 0) p.2) (fun p => own e s p.1 p.2 (m + 0) (xs ++ []) :: F) (fun A w U hh hs' => ?_) (fun p => k p.1 p.2)
    have h2 := htk.ent w U hs'
    obtain ⟨S1, hp1, _⟩ := id h2
    cases a2 with
    | none =>
      refine ⟨(a, c), w, ?_, (Out.refl h2).ent ?_⟩
      · obtain ⟨i0, hi, hz0, hz1, hz2⟩ := info_parts ht.hi
        have hle : m ≤ c := by rcases YF hp1 with ⟨_, h, h', _⟩ | ⟨_, _, _, _, h, _⟩ <;> omega
        simp [execOp, resolve, invoke, builtin, hh.ev hx, hh.ev hy, Builtin.append_, run_underlying ht.hu, sizeOf, typeInfo, hi, Builtin.lenOf, hle, Builtin.firstCells, storeCells]
        cases a <;> simp
      · simp only [Nat.add_zero, List.append_nil]; exact Ent.refl _
    | some ad =>
      obtain ⟨a', c', w', hr, ho⟩ := Vh (P := P) (t := t) (ty := ty) hz (Eq.mp Nat.blt_eq hs) h2 ad 0 c2 [] (by simp) (fun j u hu => by simp at hu) (by simp) hb hm
      exact ⟨(a', c'), w', by simp [execOp, resolve, invoke, builtin, hh.ev hx, hh.ev hy, hr], ho⟩
  · exact s_appr hd hx hy htk hA he hne hl hz hs h1 hb hm k
/-- One cell out of a row that is read. -/
theorem s_ldR {d T g o : Nat} {x : Operand} {As : List HP} {xs : List Value} {v : Value} (hd : Nat.blt d n = true) [hT : Scal P T] (hx : ev fr x = some (.pointer (some ⟨g, o, none⟩))) (hA : RdsL As (some ⟨g, 0, none⟩) xs) (he : Ent l As) (hv : xs[o]? = some v)
    (kn : WpL P n D ops rest Q ((d, v) :: fr) l) : WpL P n D ops (⟨some d, .load T x, ty, pos, aft, none⟩ :: rest) Q fr l :=
  WpL.val hd (fun A w U hh hs => by
    obtain ⟨_, h2⟩ := hA w U (he w U hs)
    have hc := h2 _ rfl o v hv
    rw [add0, Nat.zero_add] at hc
    simp [execOp, hh.ev hx, Instr.loadAt, Instr.sureAddr, loadVar, hT.agg, run_load, hc]) kn
/-- A row of bytes that is read, as a text. -/
theorem s_b2sR {d T1 T2 e c m : Nat} {x : Operand} {a : Option Addr} {xs : List Int} {As : List HP} (hd : Nat.blt d n = true) (h1 : P.underlying T1 = some (.slice e)) (h2 : P.underlying e = some (.int .u8)) (h3 : P.underlying T2 = some .string) (hx : ev fr x = some (.slice a m c)) (hA : RdsL As a (XY xs)) (he : Ent l As) (hm : xs.length = m)
    (k : WpL P n D ops rest Q ((d, .string (strOfNums xs)) :: fr) l) : WpL P n D ops (⟨some d, .convert T1 T2 x, ty, pos, aft, none⟩ :: rest) Q fr l :=
  WpL.val hd (fun A w U hh hs => by
    obtain ⟨r1, r2⟩ := hA w U (he w U hs)
    cases a with
    | none =>
      have hz : xs = [] := by
        cases xs with
        | nil => rfl
        | cons y ys => exact absurd (r1 (by simp [XY])) (by simp)
      subst hz
      have := run_convert_bytes_nil (P := P) (w := w) T1 e h1 h2 m c T2 h3
      simp [execOp, hh.ev hx, this]
      rfl
    | some ad =>
      have hl := run_loadCells_list (P := P) w ad (XY xs) (fun j v hj => r2 ad rfl j v hj)
      rw [XP, hm] at hl
      have h4 : (convert T1 T2 (.slice (some ad) m c)).run P w = .ok (.string (strOfNums xs)) w := by
        rw [run_convert_bytes_string w T1 T2 e _ m c h1 h2 h3, run_bytesToString w _ m c xs hl, foldl_push_bytes]
        simp [strOfNums, ByteArray.empty, ByteArray.emptyWithCapacity]
        rfl
      simp [execOp, hh.ev hx, h4]) k
end
/-- The cells of one element. -/
theorem Y7 {α : Type} {s : Nat} {f : α → List Value} (hf : ∀ x, (f x).length = s) : ∀ (l : List α) (i : Nat) (hi : i < l.length), ((l.flatMap f).drop (i * s)).take s = f l[i]
  | x :: l, 0, _ => by
    rw [List.flatMap_cons, Nat.zero_mul, List.drop_zero, List.take_append_of_le_length (by rw [hf]; omega), List.take_of_length_le (by rw [hf]; omega)]
    rfl
  | x :: l, i + 1, hi => by
    have ih := Y7 hf l i (by simpa using hi)
    rw [List.flatMap_cons, List.getElem_cons_succ, ← ih, Nat.add_mul, Nat.one_mul, Nat.add_comm (i * s), ← List.drop_drop, List.drop_append_of_le_length (by rw [hf]; omega), show (f x).drop s = [] from List.drop_of_length_le (by rw [hf]; omega), List.nil_append]
theorem flat_cell {α : Type} {s : Nat} {f : α → List Value} (hf : ∀ x, (f x).length = s) (l : List α) (i j : Nat) (hi : i < l.length) (hj : j < s) : (l.flatMap f)[i * s + j]? = (f l[i])[j]? := by
  rw [← Y7 hf l i hi, List.getElem?_take, if_pos hj, List.getElem?_drop]
end Go.Proofs.YtggamdlpiejbiaaGreat
namespace Go.Proofs.YtggamdlpiejbiaaGreat
open Go.RowKit Go.Shelf
theorem wf_i64 {n : Int} (h : (Lit.int .i64 n).wf = true) : -9223372036854775808 ≤ n ∧ n < 9223372036854775808 := by
  simp [Lit.wf, IntKind.min, IntKind.max, IntKind.bits, IntKind.signed] at h
  omega
theorem cell_same {w w' : World} {a : Addr} (h : w'.heap[a.block]? = w.heap[a.block]?) : w'.cell? a = w.cell? a := by
  unfold World.cell?
  rw [h]
end Go.Proofs.YtggamdlpiejbiaaGreat
namespace Go.Proofs.YtggamdlpiejbiaaGreat
open Go.RowKit Go.Shelf
theorem add_add (a : Addr) (m n : Nat) : (a.add m).add n = a.add (m + n) := by
  unfold Addr.add
  by_cases h1 : m = 0
  · subst h1; simp
  · by_cases h2 : n = 0
    · subst h2; simp [h1]
    · rw [if_neg h1, if_neg h2, if_neg (by omega)]; simp [Nat.add_assoc]
class FOffA (P : Program) (T k : Nat) (off : outParam Nat) : Prop where
  run : ∀ (ad : Addr) w, (Instr.fieldAt T (.pointer (some ad)) k).run P w = .ok (.pointer (some (ad.add off))) w
section
variable {P : Program} {n : Cx} {D : List Deferred} {ops : Array Oper} {rest : List Oper} {Q : Post} {fr : Fr} {l : List HP} {ty : Nat} {pos : String} {aft : Array Edge}
/-- An element's place, elements of s cells. -/
theorem s_ixR {d t e s by_ c N : Nat} {z : Value} {x y : Operand} {a : Option Addr} {kk : IntKind} {i : Int} {As : List HP} {xs : List Value} (k : Nat) (hd : Nat.blt d n = true) [ht : SlT P t e s by_ z] (hx : ev fr x = some (.slice a N c)) (hy : ev fr y = some (.int kk i))
    (hA : RdsL As a xs) (he : Ent l As) (hi : i = (k : Int)) (hN : k < N) (hne : xs ≠ []) (kn : WpL P n D ops rest Q ((d, .pointer (a.map fun ad => ad.add (k * s))) :: fr) l) :
    WpL P n D ops (⟨some d, .indexAddr t x y, ty, pos, aft, none⟩ :: rest) Q fr l :=
  WpL.val hd (fun A w U hh hs => by
    obtain ⟨h1, _⟩ := hA w U (he w U hs)
    obtain ⟨i0, hi0, hz0, hz1, hz2⟩ := info_parts ht.hi
    cases a with
    | none => exact absurd (h1 hne) (by simp)
    | some ad =>
      subst hi
      simp [execOp, Instr.indexAt, hh.ev hx, hh.ev hy, asIntOf, run_underlying ht.hu, sizeOf, typeInfo, hi0, hz1]
      omega) kn
/-- A field's place within it. -/
theorem s_faR {d T f off k : Nat} {x : Operand} {a : Option Addr} {As : List HP} {xs : List Value} (o2 : Nat) (hd : Nat.blt d n = true) [hf : FOffA P T f off] (hx : ev fr x = some (.pointer (a.map fun ad => ad.add k))) (hA : RdsL As a xs) (he : Ent l As) (hne : xs ≠ []) (ho : k + off = o2)
    (kn : WpL P n D ops rest Q ((d, .pointer (a.map fun ad => ad.add o2)) :: fr) l) : WpL P n D ops (⟨some d, .fieldAddr T x f, ty, pos, aft, none⟩ :: rest) Q fr l :=
  WpL.val hd (fun A w U hh hs => by
    obtain ⟨h1, _⟩ := hA w U (he w U hs)
    cases a with
    | none => exact absurd (h1 hne) (by simp)
    | some ad =>
      have hx' := hh.ev hx
      simp only [Option.map_some] at hx'
      have := hf.run (ad.add k) w
      rw [add_add, ho] at this
      simp [execOp, hx', this]) kn
/-- A struct out of it. -/
theorem s_ldaX {d T k kk : Nat} {x : Operand} {a : Option Addr} {As : List HP} {xs vs : List Value} (hd : Nat.blt d n = true) [hT : AggT P T kk] (hx : ev fr x = some (.pointer (a.map fun ad => ad.add k))) (hA : RdsL As a xs) (he : Ent l As) (hne : xs ≠ []) (hn : vs.length = kk) (hv : (xs.drop k).take vs.length = vs)
    (kn : WpL P n D ops rest Q ((d, .agg vs.toArray) :: fr) l) : WpL P n D ops (⟨some d, .load T x, ty, pos, aft, none⟩ :: rest) Q fr l :=
  WpL.val hd (fun A w U hh hs => by
    obtain ⟨h1, h2⟩ := hA w U (he w U hs)
    cases a with
    | none => exact absurd (h1 hne) (by simp)
    | some ad =>
      have hc : ∀ j v, vs[j]? = some v → w.cell? ((ad.add k).add j) = some v := fun j v hj => by
        rw [add_add]; exact h2 ad rfl (k + j) v (drop_at xs vs k hv j v hj)
      have := run_loadCells_list (P := P) w (ad.add k) vs hc
      rw [hn] at this
      have hx' := hh.ev hx
      simp only [Option.map_some] at hx'
      simp [execOp, hx', Instr.loadAt, Instr.sureAddr, loadVar, hT.agg, hT.size, this]) kn
end
/-- The old memory, as it was. -/
def oldW (W : World) : HP where
  p w S := (∀ b, S b ↔ b < W.heap.size) ∧ W.heap.size ≤ w.heap.size ∧ ∀ b, b < W.heap.size → w.heap[b]? = W.heap[b]?
  loc := fun ⟨hs, hz0, h⟩ hz hb => ⟨hs, Nat.le_trans hz0 hz, fun b hlt => (hb b ((hs b).2 hlt)).trans (h b hlt)⟩
  lt := fun ⟨hs, hz, _⟩ b hb => Nat.lt_of_lt_of_le ((hs b).1 hb) hz
theorem Fn.belowW {P : Program} {f : Nat} {args : Array Value} {x : Value} (W : World) (h : Fn P f args [oldW W] (fun v l => v = x ∧ l = [oldW W])) :
    Calls P f args W fun e w' => e = .returned x ∧ Below W.heap.size W w' := by
  refine (h W (fun b => b < W.heap.size) ⟨fun b => b < W.heap.size, ⟨fun b => Iff.rfl, Nat.le_refl _, fun _ _ => rfl⟩, fun _ h => h, trivial⟩).mono ?_
  rintro e w' ⟨v, l, rfl, ⟨rfl, rfl⟩, ho⟩
  obtain ⟨S, ⟨_, hz, hg⟩, _⟩ := ho.1
  exact ⟨rfl, ho.2.os, ho.2.tape, ho.2.output, hz, hg⟩
theorem cell_lt {w : World} {a : Addr} {v : Value} (h : w.cell? a = some v) : a.block < w.heap.size := by
  unfold World.cell? at h
  rcases Nat.lt_or_ge a.block w.heap.size with hl | hl
  · exact hl
  · rw [Array.getElem?_eq_none hl] at h; simp at h
/-- What is read of the old memory. -/
theorem RdsL.old {W : World} {a : Option Addr} {xs : List Value} (h : xs = [] ∨ ∃ x, a = some x ∧ ∀ (j : Nat) (u : Value), xs[j]? = some u → W.cell? (x.add j) = some u) : RdsL [oldW W] a xs := by
  intro w U ⟨S, ⟨_, _, hg⟩, _⟩
  rcases h with rfl | ⟨x, rfl, hc⟩
  · exact ⟨fun h => absurd rfl h, fun _ _ j u h => by simp at h⟩
  · refine ⟨fun _ => rfl, fun ad had j u hu => ?_⟩
    injection had with had
    subst had
    have := hc j u hu
    rw [← this]
    exact cell_same (hg _ (cell_lt this))
end Go.Proofs.YtggamdlpiejbiaaGreat
namespace Go.Proofs.YtggamdlpiejbiaaGreat
open Go.RowKit Go.Shelf Go.ChangeShapes Go.WideShapes Go.ChangeAt
theorem open_nums {H : Type} {enc : TypeId × Value → H} {P : Program} {W : World} {sp : Nat → Bool} {held : Bool} {t e : Nat} {k : IntKind} {fuel : Nat} {cs : List Value} {x : DataW H × List MemPlace} (ht : P.underlying t = some (.slice e)) (he : P.underlying e = some (.int k)) (hc : P.cellsOf e = 1)
    (h : DataW.trod enc P W 0 sp held fuel t cs = some x) : ∃ (a : Option Addr) (n c : Nat) (zs : List Int), cs = [.slice a n c] ∧ zs.length = n ∧ n ≤ c ∧ c ≤ maxLen ∧ (∀ z ∈ zs, (Lit.int k z).wf = true) ∧ RdsL [oldW W] a (zs.map (Value.int k)) := by
  rcases open_ints ht he hc h with ⟨hcs, _⟩ | ⟨ad, l, c, zs, hcs, _, hl, hm, hz, _, hcell, hwz⟩
  · exact ⟨none, 0, 0, [], hcs, rfl, Nat.le_refl _, by simp [maxLen], by simp, RdsL.nil⟩
  · have hzl : l ≤ zs.length := by rw [hz]; split <;> omega
    refine ⟨some ad, l, c, zs.take l, hcs, by rw [List.length_take]; omega, hl, hm, fun z hz2 => hwz z (List.mem_of_mem_take hz2), RdsL.old (.inr ⟨ad, rfl, fun j u hu => ?_⟩)⟩
    rw [List.getElem?_map] at hu
    obtain ⟨y, hy, rfl⟩ := Option.map_eq_some_iff.1 hu
    obtain ⟨hj, hy⟩ := List.getElem?_eq_some_iff.1 hy
    rw [List.length_take] at hj
    rw [hcell j (by omega), ← hy, List.getElem_take]
    simp [List.getD, List.getElem?_eq_getElem (show j < zs.length by omega)]
end Go.Proofs.YtggamdlpiejbiaaGreat
namespace Go.Proofs.YtggamdlpiejbiaaGreat
open Go.RowKit Go.Shelf Go.ChangeShapes Go.WideShapes Go.ChangeAt
theorem len1 {α : Type} : ∀ {l : List α}, l.length = 1 → ∃ a0, l = [a0]
  | [a0], _ => ⟨a0, rfl⟩
theorem len5 {α : Type} : ∀ {l : List α}, l.length = 5 → ∃ a0 a1 a2 a3 a4, l = [a0, a1, a2, a3, a4]
  | [a0, a1, a2, a3, a4], _ => ⟨a0, a1, a2, a3, a4, rfl⟩
theorem qs_of {α : Type} {f : α → List Value} {ok : α → Prop} : ∀ {qs : List (List Value)}, (∀ q ∈ qs, ∃ g : α, q = f g ∧ ok g) → ∃ gs : List α, qs = gs.map f ∧ ∀ g ∈ gs, ok g
  | [], _ => ⟨[], rfl, by simp⟩
  | q :: qs, h => by
    obtain ⟨g, rfl, hg⟩ := h q (List.mem_cons_self ..)
    obtain ⟨gs, rfl, hgs⟩ := qs_of fun x hx => h x (List.mem_cons_of_mem _ hx)
    exact ⟨g :: gs, rfl, fun x hx => (List.mem_cons.1 hx).elim (fun e => e ▸ hg) (hgs x)⟩
theorem flat_pos {k : Nat} : ∀ {qs : List (List Value)}, (∀ q ∈ qs, q.length = k) → ∀ (j : Nat) (u : Value), qs.flatten[j]? = some u → ∃ i m q, i < qs.length ∧ qs[i]? = some q ∧ q[m]? = some u ∧ j = i * k + m ∧ m < k
  | [], _, j, u, hu => by simp at hu
  | q :: qs, h, j, u, hu => by
    have hq := h q (List.mem_cons_self ..)
    rw [List.flatten_cons] at hu
    by_cases hj : j < k
    · rw [List.getElem?_append_left (by omega)] at hu
      exact ⟨0, j, q, by simp, rfl, hu, by omega, hj⟩
    · rw [List.getElem?_append_right (by omega), hq] at hu
      obtain ⟨i, m, q', h1, h2, h3, h4, h5⟩ := flat_pos (fun x hx => h x (List.mem_cons_of_mem _ hx)) _ u hu
      refine ⟨i + 1, m, q', by simp only [List.length_cons]; omega, by simpa using h2, h3, ?_, h5⟩
      rw [Nat.add_mul]; omega
theorem open_sl {H : Type} {enc : TypeId × Value → H} {P : Program} {W : World} {sp : Nat → Bool} {held : Bool} {t e k : Nat} {Q : List Value → Prop} {fuel : Nat} {cs : List Value} {x : DataW H × List MemPlace} (ht : P.underlying t = some (.slice e)) (hc : P.cellsOf e = k)
    (hQ : ∀ fuel cs x, cs.length = k → DataW.trod enc P W 0 sp held fuel e cs = some x → Q cs)
    (h : DataW.trod enc P W 0 sp held fuel t cs = some x) : ∃ (a : Option Addr) (n c : Nat) (qs : List (List Value)), cs = [.slice a n c] ∧ qs.length = n ∧ n ≤ c ∧ c ≤ maxLen ∧ (∀ q ∈ qs, q.length = k ∧ Q q) ∧ RdsL [oldW W] a qs.flatten := by
  rcases DataW.trod_slice ht h with ⟨rfl, _⟩ | ⟨a, len, cap, elems, rest, n, _, rfl, _, _, hl, hm, hlen, hel, _, _⟩
  · exact ⟨none, 0, 0, [], rfl, rfl, Nat.le_refl _, by simp [maxLen], by simp, RdsL.nil⟩
  · rw [hc] at hel
    let qs : List (List Value) := (List.range len).map fun i => ((W.cells? 0 (a.add (i * k)) k).getD [])
    have hqs : ∀ i, i < len → ∃ q, W.cells? 0 (a.add (i * k)) k = some q ∧ q.length = k ∧ Q q := by
      intro i hi
      have h1 := hel i hi
      rw [List.getElem?_eq_getElem (by omega)] at h1
      obtain ⟨q, hq, hq2⟩ := Option.bind_eq_some_iff.1 h1
      have hql := (World.cells?_some hq).2.1
      exact ⟨q, hq, hql, hQ _ _ _ hql hq2⟩
    have hmem : ∀ q ∈ qs, q.length = k ∧ Q q := by
      intro q hq
      obtain ⟨i, hi, rfl⟩ := List.mem_map.1 hq
      obtain ⟨q, h1, h2⟩ := hqs i (List.mem_range.1 hi)
      rw [h1]; exact h2
    refine ⟨some a, len, cap, qs, rfl, by simp [qs], hl, hm, hmem, RdsL.old (.inr ⟨a, rfl, fun j u hu => ?_⟩)⟩
    obtain ⟨i, m, q, hi, hq, hu2, rfl, hm2⟩ := flat_pos (fun q hq => (hmem q hq).1) j u hu
    have hi' : i < len := by simpa [qs] using hi
    obtain ⟨q', h1, h2, _⟩ := hqs i hi'
    have hqq : q = q' := by
      simp only [qs, List.getElem?_map, List.getElem?_range hi', Option.map_some, h1, Option.getD_some, Option.some.injEq] at hq
      exact hq.symm
    subst hqq
    have h3 := (World.cells?_some h1).2.2 m hm2
    rw [add_add] at h3
    rw [h3, hu2]
theorem open_slv {H : Type} {enc : TypeId × Value → H} {P : Program} {W : World} {sp : Nat → Bool} {held : Bool} {t e k : Nat} {α : Type} {f : α → List Value} {ok : α → Prop} {fuel : Nat} {cs : List Value} {x : DataW H × List MemPlace} (ht : P.underlying t = some (.slice e)) (hc : P.cellsOf e = k)
    (hQ : ∀ fuel cs x, cs.length = k → DataW.trod enc P W 0 sp held fuel e cs = some x → ∃ g : α, cs = f g ∧ ok g)
    (h : DataW.trod enc P W 0 sp held fuel t cs = some x) : ∃ (a : Option Addr) (c : Nat) (gs : List α), cs = [.slice a gs.length c] ∧ gs.length ≤ c ∧ c ≤ maxLen ∧ (∀ g ∈ gs, ok g) ∧ RdsL [oldW W] a (gs.flatMap f) := by
  obtain ⟨a, n, c, qs, rfl, hn, hl, hm, hq, hr⟩ := open_sl (Q := fun q => ∃ g : α, q = f g ∧ ok g) ht hc hQ h
  obtain ⟨gs, rfl, hgs⟩ := qs_of fun q hx => (hq q hx).2
  rw [List.length_map] at hn
  subst hn
  refine ⟨a, c, gs, rfl, hl, hm, hgs, ?_⟩
  rwa [List.flatMap_def]
end Go.Proofs.YtggamdlpiejbiaaGreat
namespace Go.Proofs.YtggamdlpiejbiaaGreat
open Go.RowKit Go.Shelf

theorem mixed : Tryz.prog.follows .mixedOrders = true := by kernel_rfl
instance : Scal Tryz.prog 3 := ⟨fun _ => by kernel_rfl, fun _ => by kernel_rfl⟩
instance : Scal Tryz.prog 4 := ⟨fun _ => by kernel_rfl, fun _ => by kernel_rfl⟩
instance : Scal Tryz.prog 5 := ⟨fun _ => by kernel_rfl, fun _ => by kernel_rfl⟩
instance : Scal Tryz.prog 22 := ⟨fun _ => by kernel_rfl, fun _ => by kernel_rfl⟩
instance : Scal Tryz.prog 26 := ⟨fun _ => by kernel_rfl, fun _ => by kernel_rfl⟩
instance : Scal Tryz.prog 29 := ⟨fun _ => by kernel_rfl, fun _ => by kernel_rfl⟩
instance : Scal Tryz.prog 30 := ⟨fun _ => by kernel_rfl, fun _ => by kernel_rfl⟩
instance : Scal Tryz.prog 31 := ⟨fun _ => by kernel_rfl, fun _ => by kernel_rfl⟩
instance : Scal Tryz.prog 38 := ⟨fun _ => by kernel_rfl, fun _ => by kernel_rfl⟩
instance : Scal Tryz.prog 49 := ⟨fun _ => by kernel_rfl, fun _ => by kernel_rfl⟩
instance : Scal Tryz.prog 92 := ⟨fun _ => by kernel_rfl, fun _ => by kernel_rfl⟩
instance : Scal Tryz.prog 119 := ⟨fun _ => by kernel_rfl, fun _ => by kernel_rfl⟩
instance : Scal Tryz.prog 121 := ⟨fun _ => by kernel_rfl, fun _ => by kernel_rfl⟩
instance : Scal Tryz.prog 127 := ⟨fun _ => by kernel_rfl, fun _ => by kernel_rfl⟩
instance : Scal Tryz.prog 184 := ⟨fun _ => by kernel_rfl, fun _ => by kernel_rfl⟩
instance : Scal Tryz.prog 192 := ⟨fun _ => by kernel_rfl, fun _ => by kernel_rfl⟩
instance : Scal Tryz.prog 232 := ⟨fun _ => by kernel_rfl, fun _ => by kernel_rfl⟩
instance : Scal Tryz.prog 255 := ⟨fun _ => by kernel_rfl, fun _ => by kernel_rfl⟩
instance : AggT Tryz.prog 24 3 := ⟨fun _ => by kernel_rfl, fun _ => by kernel_rfl⟩
instance : AggT Tryz.prog 33 5 := ⟨fun _ => by kernel_rfl, fun _ => by kernel_rfl⟩
instance : AggT Tryz.prog 48 2 := ⟨fun _ => by kernel_rfl, fun _ => by kernel_rfl⟩
instance : AggT Tryz.prog 51 6 := ⟨fun _ => by kernel_rfl, fun _ => by kernel_rfl⟩
instance : AggT Tryz.prog 53 7 := ⟨fun _ => by kernel_rfl, fun _ => by kernel_rfl⟩
instance : AggT Tryz.prog 69 3 := ⟨fun _ => by kernel_rfl, fun _ => by kernel_rfl⟩
instance : AggT Tryz.prog 71 5 := ⟨fun _ => by kernel_rfl, fun _ => by kernel_rfl⟩
instance : AggT Tryz.prog 74 5 := ⟨fun _ => by kernel_rfl, fun _ => by kernel_rfl⟩
instance : AggT Tryz.prog 98 4 := ⟨fun _ => by kernel_rfl, fun _ => by kernel_rfl⟩
instance : AggT Tryz.prog 113 4 := ⟨fun _ => by kernel_rfl, fun _ => by kernel_rfl⟩
instance : AggT Tryz.prog 170 4 := ⟨fun _ => by kernel_rfl, fun _ => by kernel_rfl⟩
instance : AggT Tryz.prog 175 10 := ⟨fun _ => by kernel_rfl, fun _ => by kernel_rfl⟩
instance : AggT Tryz.prog 271 8 := ⟨fun _ => by kernel_rfl, fun _ => by kernel_rfl⟩
instance : FOff Tryz.prog 24 0 0 := ⟨fun _ _ _ => by kernel_rfl⟩
instance : FOff Tryz.prog 24 1 1 := ⟨fun _ _ _ => by kernel_rfl⟩
instance : FOff Tryz.prog 24 2 2 := ⟨fun _ _ _ => by kernel_rfl⟩
instance : FOff Tryz.prog 33 0 0 := ⟨fun _ _ _ => by kernel_rfl⟩
instance : FOff Tryz.prog 33 1 1 := ⟨fun _ _ _ => by kernel_rfl⟩
instance : FOff Tryz.prog 33 2 2 := ⟨fun _ _ _ => by kernel_rfl⟩
instance : FOff Tryz.prog 33 3 3 := ⟨fun _ _ _ => by kernel_rfl⟩
instance : FOff Tryz.prog 33 4 4 := ⟨fun _ _ _ => by kernel_rfl⟩
instance : FOff Tryz.prog 48 0 0 := ⟨fun _ _ _ => by kernel_rfl⟩
instance : FOff Tryz.prog 48 1 1 := ⟨fun _ _ _ => by kernel_rfl⟩
instance : FOff Tryz.prog 51 0 0 := ⟨fun _ _ _ => by kernel_rfl⟩
instance : FOff Tryz.prog 51 1 1 := ⟨fun _ _ _ => by kernel_rfl⟩
instance : FOff Tryz.prog 51 2 3 := ⟨fun _ _ _ => by kernel_rfl⟩
instance : FOff Tryz.prog 51 3 4 := ⟨fun _ _ _ => by kernel_rfl⟩
instance : FOff Tryz.prog 51 4 5 := ⟨fun _ _ _ => by kernel_rfl⟩
instance : FOff Tryz.prog 53 0 0 := ⟨fun _ _ _ => by kernel_rfl⟩
instance : FOff Tryz.prog 53 1 1 := ⟨fun _ _ _ => by kernel_rfl⟩
instance : FOff Tryz.prog 53 2 3 := ⟨fun _ _ _ => by kernel_rfl⟩
instance : FOff Tryz.prog 53 3 4 := ⟨fun _ _ _ => by kernel_rfl⟩
instance : FOff Tryz.prog 53 4 5 := ⟨fun _ _ _ => by kernel_rfl⟩
instance : FOff Tryz.prog 69 0 0 := ⟨fun _ _ _ => by kernel_rfl⟩
instance : FOff Tryz.prog 69 1 1 := ⟨fun _ _ _ => by kernel_rfl⟩
instance : FOff Tryz.prog 69 2 2 := ⟨fun _ _ _ => by kernel_rfl⟩
instance : FOff Tryz.prog 71 0 0 := ⟨fun _ _ _ => by kernel_rfl⟩
instance : FOff Tryz.prog 71 1 2 := ⟨fun _ _ _ => by kernel_rfl⟩
instance : FOff Tryz.prog 74 0 0 := ⟨fun _ _ _ => by kernel_rfl⟩
instance : FOff Tryz.prog 74 1 1 := ⟨fun _ _ _ => by kernel_rfl⟩
instance : FOff Tryz.prog 74 2 2 := ⟨fun _ _ _ => by kernel_rfl⟩
instance : FOff Tryz.prog 74 3 3 := ⟨fun _ _ _ => by kernel_rfl⟩
instance : FOff Tryz.prog 74 4 4 := ⟨fun _ _ _ => by kernel_rfl⟩
instance : FOff Tryz.prog 98 0 0 := ⟨fun _ _ _ => by kernel_rfl⟩
instance : FOff Tryz.prog 98 1 1 := ⟨fun _ _ _ => by kernel_rfl⟩
instance : FOff Tryz.prog 98 2 2 := ⟨fun _ _ _ => by kernel_rfl⟩
instance : FOff Tryz.prog 98 3 3 := ⟨fun _ _ _ => by kernel_rfl⟩
instance : FOff Tryz.prog 113 0 0 := ⟨fun _ _ _ => by kernel_rfl⟩
instance : FOff Tryz.prog 113 1 1 := ⟨fun _ _ _ => by kernel_rfl⟩
instance : FOff Tryz.prog 113 2 2 := ⟨fun _ _ _ => by kernel_rfl⟩
instance : FOff Tryz.prog 113 3 3 := ⟨fun _ _ _ => by kernel_rfl⟩
instance : FOff Tryz.prog 123 0 0 := ⟨fun _ _ _ => by kernel_rfl⟩
instance : FOff Tryz.prog 123 1 3 := ⟨fun _ _ _ => by kernel_rfl⟩
instance : FOff Tryz.prog 123 2 4 := ⟨fun _ _ _ => by kernel_rfl⟩
instance : FOff Tryz.prog 123 3 5 := ⟨fun _ _ _ => by kernel_rfl⟩
instance : FOff Tryz.prog 123 4 6 := ⟨fun _ _ _ => by kernel_rfl⟩
instance : FOff Tryz.prog 123 5 7 := ⟨fun _ _ _ => by kernel_rfl⟩
instance : FOff Tryz.prog 123 6 8 := ⟨fun _ _ _ => by kernel_rfl⟩
instance : FOff Tryz.prog 123 7 9 := ⟨fun _ _ _ => by kernel_rfl⟩
instance : FOff Tryz.prog 170 0 0 := ⟨fun _ _ _ => by kernel_rfl⟩
instance : FOff Tryz.prog 170 1 1 := ⟨fun _ _ _ => by kernel_rfl⟩
instance : FOff Tryz.prog 170 2 2 := ⟨fun _ _ _ => by kernel_rfl⟩
instance : FOff Tryz.prog 170 3 3 := ⟨fun _ _ _ => by kernel_rfl⟩
instance : FOff Tryz.prog 175 0 0 := ⟨fun _ _ _ => by kernel_rfl⟩
instance : FOff Tryz.prog 175 1 4 := ⟨fun _ _ _ => by kernel_rfl⟩
instance : FOff Tryz.prog 175 2 5 := ⟨fun _ _ _ => by kernel_rfl⟩
instance : FOff Tryz.prog 175 3 6 := ⟨fun _ _ _ => by kernel_rfl⟩
instance : FOff Tryz.prog 175 4 7 := ⟨fun _ _ _ => by kernel_rfl⟩
instance : FOff Tryz.prog 175 5 8 := ⟨fun _ _ _ => by kernel_rfl⟩
instance : FOff Tryz.prog 175 6 9 := ⟨fun _ _ _ => by kernel_rfl⟩
instance : FOff Tryz.prog 186 0 0 := ⟨fun _ _ _ => by kernel_rfl⟩
instance : FOff Tryz.prog 186 1 4 := ⟨fun _ _ _ => by kernel_rfl⟩
instance : FOff Tryz.prog 186 2 5 := ⟨fun _ _ _ => by kernel_rfl⟩
instance : FOff Tryz.prog 186 3 6 := ⟨fun _ _ _ => by kernel_rfl⟩
instance : FOff Tryz.prog 186 4 7 := ⟨fun _ _ _ => by kernel_rfl⟩
instance : FOff Tryz.prog 186 5 8 := ⟨fun _ _ _ => by kernel_rfl⟩
instance : FOff Tryz.prog 186 6 9 := ⟨fun _ _ _ => by kernel_rfl⟩
instance : FOff Tryz.prog 186 7 10 := ⟨fun _ _ _ => by kernel_rfl⟩
instance : FOff Tryz.prog 198 0 0 := ⟨fun _ _ _ => by kernel_rfl⟩
instance : FOff Tryz.prog 198 1 4 := ⟨fun _ _ _ => by kernel_rfl⟩
instance : FOff Tryz.prog 198 2 5 := ⟨fun _ _ _ => by kernel_rfl⟩
instance : FOff Tryz.prog 198 3 6 := ⟨fun _ _ _ => by kernel_rfl⟩
instance : FOff Tryz.prog 198 4 7 := ⟨fun _ _ _ => by kernel_rfl⟩
instance : FOff Tryz.prog 198 5 8 := ⟨fun _ _ _ => by kernel_rfl⟩
instance : FOff Tryz.prog 234 0 0 := ⟨fun _ _ _ => by kernel_rfl⟩
instance : FOff Tryz.prog 234 1 4 := ⟨fun _ _ _ => by kernel_rfl⟩
instance : FOff Tryz.prog 234 2 7 := ⟨fun _ _ _ => by kernel_rfl⟩
instance : FOff Tryz.prog 234 3 8 := ⟨fun _ _ _ => by kernel_rfl⟩
instance : FOff Tryz.prog 234 4 9 := ⟨fun _ _ _ => by kernel_rfl⟩
instance : FOff Tryz.prog 234 5 10 := ⟨fun _ _ _ => by kernel_rfl⟩
instance : FOff Tryz.prog 234 6 11 := ⟨fun _ _ _ => by kernel_rfl⟩
instance : FOff Tryz.prog 265 0 0 := ⟨fun _ _ _ => by kernel_rfl⟩
instance : FOff Tryz.prog 265 1 1 := ⟨fun _ _ _ => by kernel_rfl⟩
instance : FOff Tryz.prog 265 2 2 := ⟨fun _ _ _ => by kernel_rfl⟩
instance : FOff Tryz.prog 265 3 3 := ⟨fun _ _ _ => by kernel_rfl⟩
instance : FOff Tryz.prog 265 4 4 := ⟨fun _ _ _ => by kernel_rfl⟩
instance : FOff Tryz.prog 265 5 5 := ⟨fun _ _ _ => by kernel_rfl⟩
instance : FVal Tryz.prog 48 0 0 := ⟨fun cs v w h => by
  have e : (Instr.field 48 (.agg cs) 0).run Tryz.prog w = (match cs[0]? with | some v => (pure v : Sem Value) | none => stuck "part: no such cell").run Tryz.prog w := by kernel_rfl
  rw [e, h]; rfl⟩
instance : ZeroT Tryz.prog 24 [.int .i64 0, .int .i64 0, .int .i64 0] := ⟨fun _ => .inl (by kernel_rfl)⟩
instance : ZeroT Tryz.prog 26 [.slice none 0 0] := ⟨fun _ => .inr ⟨.slice none 0 0, by kernel_rfl, rfl⟩⟩
instance : ZeroT Tryz.prog 33 [.slice none 0 0, .slice none 0 0, .int .i64 0, .int .i64 0, .int .i64 0] := ⟨fun _ => .inl (by kernel_rfl)⟩
instance : ZeroT Tryz.prog 48 [.int .i64 0, .int .i64 0] := ⟨fun _ => .inl (by kernel_rfl)⟩
instance : ZeroT Tryz.prog 49 [.slice none 0 0] := ⟨fun _ => .inr ⟨.slice none 0 0, by kernel_rfl, rfl⟩⟩
instance : ZeroT Tryz.prog 69 [.int .i64 0, .int .i64 0, .slice none 0 0] := ⟨fun _ => .inl (by kernel_rfl)⟩
instance : ZeroT Tryz.prog 71 [.int .i64 0, .int .i64 0, .int .i64 0, .int .i64 0, .slice none 0 0] := ⟨fun _ => .inl (by kernel_rfl)⟩
instance : ZeroT Tryz.prog 98 [.int .i64 0, .int .i64 0, .int .i64 0, .int .i64 0] := ⟨fun _ => .inl (by kernel_rfl)⟩
instance : ZeroT Tryz.prog 113 [.int .i64 0, .int .i64 0, .int .i64 0, .int .i64 0] := ⟨fun _ => .inl (by kernel_rfl)⟩
instance : ZeroT Tryz.prog 170 [.int .i64 0, .int .i64 0, .int .i64 0, .int .i64 0] := ⟨fun _ => .inl (by kernel_rfl)⟩
instance : ZeroT Tryz.prog 175 [.int .i64 0, .int .i64 0, .int .i64 0, .int .i64 0, .int .i64 0, .slice none 0 0, .slice none 0 0, .int .i64 0, .int .i64 0, .int .i64 0] := ⟨fun _ => .inl (by kernel_rfl)⟩
instance : ZeroT Tryz.prog 271 [.int .i64 0, .int .i64 0, .int .i64 0, .int .i64 0, .int .i64 0, .int .i64 0, .int .i64 0, .int .i64 0] := ⟨fun _ => .inl (by kernel_rfl)⟩
instance : BldT Tryz.prog 24 [.int .i64 0, .int .i64 0, .int .i64 0] [(0, 1), (1, 1), (2, 1)] := ⟨fun _ => by kernel_rfl⟩
instance : BldT Tryz.prog 48 [.int .i64 0, .int .i64 0] [(0, 1), (1, 1)] := ⟨fun _ => by kernel_rfl⟩
instance : BldT Tryz.prog 51 [.int .i64 0, .int .i64 0, .int .i64 0, .int .i64 0, .int .i64 0, .slice none 0 0] [(0, 1), (1, 2), (3, 1), (4, 1), (5, 1)] := ⟨fun _ => by kernel_rfl⟩
instance : BldT Tryz.prog 53 [.int .i64 0, .int .i64 0, .int .i64 0, .int .i64 0, .int .i64 0, .slice none 0 0, .int .i64 0] [(0, 1), (1, 2), (3, 1), (4, 1), (5, 1), (6, 1)] := ⟨fun _ => by kernel_rfl⟩
instance : BldT Tryz.prog 69 [.int .i64 0, .int .i64 0, .slice none 0 0] [(0, 1), (1, 1), (2, 1)] := ⟨fun _ => by kernel_rfl⟩
instance : BldT Tryz.prog 71 [.int .i64 0, .int .i64 0, .int .i64 0, .int .i64 0, .slice none 0 0] [(0, 2), (2, 3)] := ⟨fun _ => by kernel_rfl⟩
instance : BldT Tryz.prog 98 [.int .i64 0, .int .i64 0, .int .i64 0, .int .i64 0] [(0, 1), (1, 1), (2, 1), (3, 1)] := ⟨fun _ => by kernel_rfl⟩
instance : BldT Tryz.prog 113 [.int .i64 0, .int .i64 0, .int .i64 0, .int .i64 0] [(0, 1), (1, 1), (2, 1), (3, 1)] := ⟨fun _ => by kernel_rfl⟩
instance : BldT Tryz.prog 123 [.int .i64 0, .int .i64 0, .int .i64 0, .nilFunc, .pointer none, .nilIface, .int .i64 0, .int .i64 0, .bool false, .int .i64 0] [(0, 3), (3, 1), (4, 1), (5, 1), (6, 1), (7, 1), (8, 1), (9, 1)] := ⟨fun _ => by kernel_rfl⟩
instance : BldT Tryz.prog 170 [.int .i64 0, .int .i64 0, .int .i64 0, .int .i64 0] [(0, 1), (1, 1), (2, 1), (3, 1)] := ⟨fun _ => by kernel_rfl⟩
instance : BldT Tryz.prog 175 [.int .i64 0, .int .i64 0, .int .i64 0, .int .i64 0, .int .i64 0, .slice none 0 0, .slice none 0 0, .int .i64 0, .int .i64 0, .int .i64 0] [(0, 4), (4, 1), (5, 1), (6, 1), (7, 1), (8, 1), (9, 1)] := ⟨fun _ => by kernel_rfl⟩
instance : BldT Tryz.prog 186 [.int .i64 0, .int .i64 0, .int .i64 0, .int .i64 0, .nilFunc, .int .i64 0, .slice none 0 0, .slice none 0 0, .int .i64 0, .int .i64 0, .int .i64 0] [(0, 4), (4, 1), (5, 1), (6, 1), (7, 1), (8, 1), (9, 1), (10, 1)] := ⟨fun _ => by kernel_rfl⟩
instance : BldT Tryz.prog 198 [.int .i64 0, .int .i64 0, .int .i64 0, .int .i64 0, .slice none 0 0, .int .i64 0, .int .i64 0, .int .i64 0, .int .i64 0] [(0, 4), (4, 1), (5, 1), (6, 1), (7, 1), (8, 1)] := ⟨fun _ => by kernel_rfl⟩
instance : BldT Tryz.prog 231 [.int .i64 0, .int .i64 0, .int .i64 0] [(0, 1), (1, 1), (2, 1)] := ⟨fun vs => (show Tryz.prog.built 231 vs = Instr.fill (fun i => some (i * 1, 1)) #[.int .i64 0, .int .i64 0, .int .i64 0] vs by kernel_rfl).trans (fill_arr 3 vs _ rfl)⟩
instance : BldT Tryz.prog 234 [.int .i64 0, .int .i64 0, .int .i64 0, .int .i64 0, .int .i64 0, .int .i64 0, .int .i64 0, .int .i64 0, .int .i64 0, .pointer none, .int .i64 0, .int .i64 0] [(0, 4), (4, 3), (7, 1), (8, 1), (9, 1), (10, 1), (11, 1)] := ⟨fun _ => by kernel_rfl⟩
instance : BldT Tryz.prog 265 [.nilFunc, .int .i64 0, .int .i64 0, .bool false, .int .i64 0, .int .i64 0] [(0, 1), (1, 1), (2, 1), (3, 1), (4, 1), (5, 1)] := ⟨fun _ => by kernel_rfl⟩
instance : SlT Tryz.prog 22 5 1 1 (.int .u8 0) := ⟨by kernel_rfl, by kernel_rfl⟩
instance : SlT Tryz.prog 25 74 5 56 (.agg #[.bool false, .int .i64 0, .int .i64 0, .int .i64 0, .slice none 0 0]) := ⟨by kernel_rfl, by kernel_rfl⟩
instance : SlT Tryz.prog 26 3 1 8 (.int .i64 0) := ⟨by kernel_rfl, by kernel_rfl⟩
instance : SlT Tryz.prog 29 53 7 72 (.agg #[.int .i64 0, .int .i64 0, .int .i64 0, .int .i64 0, .int .i64 0, .slice none 0 0, .int .i64 0]) := ⟨by kernel_rfl, by kernel_rfl⟩
instance : SlT Tryz.prog 30 71 5 56 (.agg #[.int .i64 0, .int .i64 0, .int .i64 0, .int .i64 0, .slice none 0 0]) := ⟨by kernel_rfl, by kernel_rfl⟩
instance : SlT Tryz.prog 37 51 6 64 (.agg #[.int .i64 0, .int .i64 0, .int .i64 0, .int .i64 0, .int .i64 0, .slice none 0 0]) := ⟨by kernel_rfl, by kernel_rfl⟩
instance : SlT Tryz.prog 49 92 1 8 (.int .u64 0) := ⟨by kernel_rfl, by kernel_rfl⟩
instance : SlT Tryz.prog 256 255 1 8 (.pointer none) := ⟨by kernel_rfl, by kernel_rfl⟩
instance : ArT Tryz.prog 231 3 3 := ⟨by kernel_rfl, fun _ => by kernel_rfl⟩
instance : ArT Tryz.prog 271 8 3 := ⟨by kernel_rfl, fun _ => by kernel_rfl⟩
instance : IntT Tryz.prog 3 .i64 := ⟨by kernel_rfl⟩
instance : IntT Tryz.prog 5 .u8 := ⟨by kernel_rfl⟩
instance : IntT Tryz.prog 92 .u64 := ⟨by kernel_rfl⟩
instance : Ent1 Tryz.prog 15 := ⟨enters_of Tryz.func15 (by kernel_rfl) rfl⟩
instance : Ent1 Tryz.prog 16 := ⟨enters_of Tryz.func16 (by kernel_rfl) rfl⟩
instance : Ent1 Tryz.prog 17 := ⟨enters_of Tryz.func17 (by kernel_rfl) rfl⟩
instance : Ent1 Tryz.prog 19 := ⟨enters_of Tryz.func19 (by kernel_rfl) rfl⟩
instance : Ent1 Tryz.prog 20 := ⟨enters_of Tryz.func20 (by kernel_rfl) rfl⟩
instance : Ent1 Tryz.prog 21 := ⟨enters_of Tryz.func21 (by kernel_rfl) rfl⟩
instance : Ent1 Tryz.prog 22 := ⟨enters_of Tryz.func22 (by kernel_rfl) rfl⟩
instance : Ent1 Tryz.prog 23 := ⟨enters_of Tryz.func23 (by kernel_rfl) rfl⟩
instance : Ent1 Tryz.prog 24 := ⟨enters_of Tryz.func24 (by kernel_rfl) rfl⟩
instance : Ent1 Tryz.prog 25 := ⟨enters_of Tryz.func25 (by kernel_rfl) rfl⟩
instance : Ent1 Tryz.prog 26 := ⟨enters_of Tryz.func26 (by kernel_rfl) rfl⟩
instance : Ent1 Tryz.prog 27 := ⟨enters_of Tryz.func27 (by kernel_rfl) rfl⟩
instance : Ent1 Tryz.prog 33 := ⟨enters_of Tryz.func33 (by kernel_rfl) rfl⟩
instance : Ent1 Tryz.prog 34 := ⟨enters_of Tryz.func34 (by kernel_rfl) rfl⟩
instance : Ent1 Tryz.prog 35 := ⟨enters_of Tryz.func35 (by kernel_rfl) rfl⟩
instance : Ent1 Tryz.prog 36 := ⟨enters_of Tryz.func36 (by kernel_rfl) rfl⟩
instance : Ent1 Tryz.prog 47 := ⟨enters_of Tryz.func47 (by kernel_rfl) rfl⟩
instance : Ent1 Tryz.prog 55 := ⟨enters_of Tryz.func55 (by kernel_rfl) rfl⟩
instance : Ent1 Tryz.prog 56 := ⟨enters_of Tryz.func56 (by kernel_rfl) rfl⟩
instance : Ent1 Tryz.prog 57 := ⟨enters_of Tryz.func57 (by kernel_rfl) rfl⟩
instance : Ent1 Tryz.prog 58 := ⟨enters_of Tryz.func58 (by kernel_rfl) rfl⟩
instance : Ent1 Tryz.prog 59 := ⟨enters_of Tryz.func59 (by kernel_rfl) rfl⟩
instance : Ent1 Tryz.prog 60 := ⟨enters_of Tryz.func60 (by kernel_rfl) rfl⟩
instance : Ent1 Tryz.prog 61 := ⟨enters_of Tryz.func61 (by kernel_rfl) rfl⟩
instance : Ent1 Tryz.prog 62 := ⟨enters_of Tryz.func62 (by kernel_rfl) rfl⟩
instance : Ent1 Tryz.prog 63 := ⟨enters_of Tryz.func63 (by kernel_rfl) rfl⟩
instance : Ent1 Tryz.prog 64 := ⟨enters_of Tryz.func64 (by kernel_rfl) rfl⟩
instance : Ent1 Tryz.prog 65 := ⟨enters_of Tryz.func65 (by kernel_rfl) rfl⟩
instance : Ent1 Tryz.prog 67 := ⟨enters_of Tryz.func67 (by kernel_rfl) rfl⟩
instance : Ent1 Tryz.prog 68 := ⟨enters_of Tryz.func68 (by kernel_rfl) rfl⟩
instance : Ent1 Tryz.prog 69 := ⟨enters_of Tryz.func69 (by kernel_rfl) rfl⟩
instance : Ent1 Tryz.prog 70 := ⟨enters_of Tryz.func70 (by kernel_rfl) rfl⟩
instance : Ent1 Tryz.prog 71 := ⟨enters_of Tryz.func71 (by kernel_rfl) rfl⟩
instance : Ent1 Tryz.prog 72 := ⟨enters_of Tryz.func72 (by kernel_rfl) rfl⟩
instance : Ent1 Tryz.prog 73 := ⟨enters_of Tryz.func73 (by kernel_rfl) rfl⟩
instance : Ent1 Tryz.prog 76 := ⟨enters_of Tryz.func76 (by kernel_rfl) rfl⟩
instance : Ent1 Tryz.prog 79 := ⟨enters_of Tryz.func79 (by kernel_rfl) rfl⟩
instance : Ent1 Tryz.prog 82 := ⟨enters_of Tryz.func82 (by kernel_rfl) rfl⟩
instance : Ent1 Tryz.prog 86 := ⟨enters_of Tryz.func86 (by kernel_rfl) rfl⟩
instance : Ent1 Tryz.prog 98 := ⟨enters_of Tryz.func98 (by kernel_rfl) rfl⟩
instance : Ent1 Tryz.prog 99 := ⟨enters_of Tryz.func99 (by kernel_rfl) rfl⟩
instance : Ent1 Tryz.prog 100 := ⟨enters_of Tryz.func100 (by kernel_rfl) rfl⟩
instance : Ent1 Tryz.prog 101 := ⟨enters_of Tryz.func101 (by kernel_rfl) rfl⟩
instance : Ent1 Tryz.prog 102 := ⟨enters_of Tryz.func102 (by kernel_rfl) rfl⟩
instance : Ent1 Tryz.prog 103 := ⟨enters_of Tryz.func103 (by kernel_rfl) rfl⟩
instance : Ent1 Tryz.prog 104 := ⟨enters_of Tryz.func104 (by kernel_rfl) rfl⟩
instance : Ent1 Tryz.prog 105 := ⟨enters_of Tryz.func105 (by kernel_rfl) rfl⟩
instance : Ent1 Tryz.prog 106 := ⟨enters_of Tryz.func106 (by kernel_rfl) rfl⟩
instance : Ent1 Tryz.prog 107 := ⟨enters_of Tryz.func107 (by kernel_rfl) rfl⟩
instance : Ent1 Tryz.prog 108 := ⟨enters_of Tryz.func108 (by kernel_rfl) rfl⟩
instance : Ent1 Tryz.prog 109 := ⟨enters_of Tryz.func109 (by kernel_rfl) rfl⟩
instance : Ent1 Tryz.prog 110 := ⟨enters_of Tryz.func110 (by kernel_rfl) rfl⟩
instance : Ent1 Tryz.prog 111 := ⟨enters_of Tryz.func111 (by kernel_rfl) rfl⟩
instance : Ent1 Tryz.prog 112 := ⟨enters_of Tryz.func112 (by kernel_rfl) rfl⟩
instance : Ent1 Tryz.prog 113 := ⟨enters_of Tryz.func113 (by kernel_rfl) rfl⟩
instance : Ent1 Tryz.prog 114 := ⟨enters_of Tryz.func114 (by kernel_rfl) rfl⟩
instance : Ent1 Tryz.prog 115 := ⟨enters_of Tryz.func115 (by kernel_rfl) rfl⟩
instance : Ent1 Tryz.prog 116 := ⟨enters_of Tryz.func116 (by kernel_rfl) rfl⟩
instance : Ent1 Tryz.prog 117 := ⟨enters_of Tryz.func117 (by kernel_rfl) rfl⟩
instance : Ent1 Tryz.prog 118 := ⟨enters_of Tryz.func118 (by kernel_rfl) rfl⟩
instance : Ent1 Tryz.prog 119 := ⟨enters_of Tryz.func119 (by kernel_rfl) rfl⟩
instance : Ent1 Tryz.prog 120 := ⟨enters_of Tryz.func120 (by kernel_rfl) rfl⟩
instance : Ent1 Tryz.prog 121 := ⟨enters_of Tryz.func121 (by kernel_rfl) rfl⟩
instance : Ent1 Tryz.prog 122 := ⟨enters_of Tryz.func122 (by kernel_rfl) rfl⟩
instance : Ent1 Tryz.prog 123 := ⟨enters_of Tryz.func123 (by kernel_rfl) rfl⟩
instance : Ent1 Tryz.prog 124 := ⟨enters_of Tryz.func124 (by kernel_rfl) rfl⟩
instance : Ent1 Tryz.prog 126 := ⟨enters_of Tryz.func126 (by kernel_rfl) rfl⟩
instance : Ent1 Tryz.prog 133 := ⟨enters_of Tryz.func133 (by kernel_rfl) rfl⟩
instance : Ent1 Tryz.prog 134 := ⟨enters_of Tryz.func134 (by kernel_rfl) rfl⟩
instance : Ent1 Tryz.prog 136 := ⟨enters_of Tryz.func136 (by kernel_rfl) rfl⟩
instance : Ent1 Tryz.prog 145 := ⟨enters_of Tryz.func145 (by kernel_rfl) rfl⟩
instance : Ent1 Tryz.prog 146 := ⟨enters_of Tryz.func146 (by kernel_rfl) rfl⟩
instance : Ent1 Tryz.prog 154 := ⟨enters_of Tryz.func154 (by kernel_rfl) rfl⟩
instance : Ent1 Tryz.prog 155 := ⟨enters_of Tryz.func155 (by kernel_rfl) rfl⟩
instance : Ent1 Tryz.prog 156 := ⟨enters_of Tryz.func156 (by kernel_rfl) rfl⟩
instance : Ent1 Tryz.prog 157 := ⟨enters_of Tryz.func157 (by kernel_rfl) rfl⟩
instance : Ent1 Tryz.prog 158 := ⟨enters_of Tryz.func158 (by kernel_rfl) rfl⟩
instance : Ent1 Tryz.prog 159 := ⟨enters_of Tryz.func159 (by kernel_rfl) rfl⟩
instance : Ent1 Tryz.prog 160 := ⟨enters_of Tryz.func160 (by kernel_rfl) rfl⟩
instance : Ent1 Tryz.prog 161 := ⟨enters_of Tryz.func161 (by kernel_rfl) rfl⟩
instance : Ent1 Tryz.prog 162 := ⟨enters_of Tryz.func162 (by kernel_rfl) rfl⟩
instance : Ent1 Tryz.prog 163 := ⟨enters_of Tryz.func163 (by kernel_rfl) rfl⟩
instance : Ent1 Tryz.prog 164 := ⟨enters_of Tryz.func164 (by kernel_rfl) rfl⟩
instance : Ent1 Tryz.prog 165 := ⟨enters_of Tryz.func165 (by kernel_rfl) rfl⟩
instance : Ent1 Tryz.prog 166 := ⟨enters_of Tryz.func166 (by kernel_rfl) rfl⟩
instance : Ent1 Tryz.prog 167 := ⟨enters_of Tryz.func167 (by kernel_rfl) rfl⟩
instance : Ent1 Tryz.prog 168 := ⟨enters_of Tryz.func168 (by kernel_rfl) rfl⟩
instance : Ent1 Tryz.prog 169 := ⟨enters_of Tryz.func169 (by kernel_rfl) rfl⟩
instance : Ent1 Tryz.prog 170 := ⟨enters_of Tryz.func170 (by kernel_rfl) rfl⟩
instance : Ent1 Tryz.prog 171 := ⟨enters_of Tryz.func171 (by kernel_rfl) rfl⟩
instance : Ent1 Tryz.prog 175 := ⟨enters_of Tryz.func175 (by kernel_rfl) rfl⟩
instance : Ent1 Tryz.prog 176 := ⟨enters_of Tryz.func176 (by kernel_rfl) rfl⟩
instance : Ent1 Tryz.prog 181 := ⟨enters_of Tryz.func181 (by kernel_rfl) rfl⟩
instance : Ent1 Tryz.prog 182 := ⟨enters_of Tryz.func182 (by kernel_rfl) rfl⟩
instance : Ent1 Tryz.prog 186 := ⟨enters_of Tryz.func186 (by kernel_rfl) rfl⟩
instance : Ent1 Tryz.prog 187 := ⟨enters_of Tryz.func187 (by kernel_rfl) rfl⟩
instance : Ent1 Tryz.prog 188 := ⟨enters_of Tryz.func188 (by kernel_rfl) rfl⟩
instance : Ent1 Tryz.prog 190 := ⟨enters_of Tryz.func190 (by kernel_rfl) rfl⟩
instance : Ent1 Tryz.prog 191 := ⟨enters_of Tryz.func191 (by kernel_rfl) rfl⟩
instance : Ent1 Tryz.prog 192 := ⟨enters_of Tryz.func192 (by kernel_rfl) rfl⟩
instance : Ent1 Tryz.prog 193 := ⟨enters_of Tryz.func193 (by kernel_rfl) rfl⟩
instance : Ent1 Tryz.prog 194 := ⟨enters_of Tryz.func194 (by kernel_rfl) rfl⟩
instance : Ent1 Tryz.prog 195 := ⟨enters_of Tryz.func195 (by kernel_rfl) rfl⟩
instance : Ent1 Tryz.prog 196 := ⟨enters_of Tryz.func196 (by kernel_rfl) rfl⟩
instance : Ent1 Tryz.prog 202 := ⟨enters_of Tryz.func202 (by kernel_rfl) rfl⟩
instance : Ent1 Tryz.prog 203 := ⟨enters_of Tryz.func203 (by kernel_rfl) rfl⟩
instance : Ent1 Tryz.prog 204 := ⟨enters_of Tryz.func204 (by kernel_rfl) rfl⟩
instance : Ent1 Tryz.prog 206 := ⟨enters_of Tryz.func206 (by kernel_rfl) rfl⟩
instance : Ent1 Tryz.prog 207 := ⟨enters_of Tryz.func207 (by kernel_rfl) rfl⟩
instance : Ent1 Tryz.prog 208 := ⟨enters_of Tryz.func208 (by kernel_rfl) rfl⟩
instance : Ent1 Tryz.prog 209 := ⟨enters_of Tryz.func209 (by kernel_rfl) rfl⟩
instance : Ent1 Tryz.prog 210 := ⟨enters_of Tryz.func210 (by kernel_rfl) rfl⟩
instance : Ent1 Tryz.prog 211 := ⟨enters_of Tryz.func211 (by kernel_rfl) rfl⟩
instance : Ent1 Tryz.prog 212 := ⟨enters_of Tryz.func212 (by kernel_rfl) rfl⟩
end Go.Proofs.YtggamdlpiejbiaaGreat
namespace Go.Proofs
open Go.Shelf
open Go.RowKit in
open Go.RowKit in
def Tryz.lays137_ren : Go.Shelf.Ren := ⟨fun | 137 => 161 | 217 => 189 | 266 => 201 | n => n, fun | 9 => 9 | 5 => 5 | 3 => 3 | n => n, fun | n => n⟩
theorem Tryz.lays137 : Go.Proofs.Lays.n137 Tryz.prog Tryz.lays137_ren := {
  mixed := by kernel_rfl
  f137 := Tryz.func161.trans (congrArg some (by kernel_rfl))
  f217 := Tryz.func189.trans (congrArg some (by kernel_rfl))
  f266 := Tryz.func201.trans (congrArg some (by kernel_rfl))
  t3 := Tryz.underlying3
  a3 := Tryz.isAgg3
  z3 := Tryz.sizeOf3
  v3 := Tryz.zeroValue3
  t5 := Tryz.underlying5
  a5 := Tryz.isAgg5
  z5 := Tryz.sizeOf5
  v5 := Tryz.zeroValue5
  t9 := Tryz.underlying9
  a9 := Tryz.isAgg9
  z9 := Tryz.sizeOf9
  v9 := Tryz.zeroValue9 }
open Go.RowKit in
/-- strings.IndexByte: "IndexByte returns the index of the first instance of c in s, or -1 if c is not present in s.": IT RETURNS 'Lib.indexByte s c'; the world is as it was. (LAID: no walk: one application.) -/
theorem Tryz.strings_IndexByte (s : ByteArray) (c : Int) (w : World) :
    Calls Tryz.prog 161 #[.string s, .int .u8 c] w fun e w' => e = .returned (.int .i64 (Lib.indexByte s.data.toList c.toNat.toUInt8)) ∧ w' = w := Any.strings_IndexByte Tryz.lays137 s c w
end Go.Proofs
namespace Go.Proofs.YtggamdlpiejbiaaGreat
open Go.RowKit Go.Shelf


def Q8 (c : Int) : Bool := decide (c = 9 ∨ c = 10 ∨ c = 11 ∨ c = 12 ∨ c = 13 ∨ c = 32)
theorem blank_ix (c : Int) (h0 : 0 ≤ c) (h1 : c ≤ 255) : decide ((0 : Int) ≤ Lib.indexByte [9, 10, 11, 12, 13, 32] c.toNat.toUInt8) = Q8 c := by
  obtain ⟨k, rfl⟩ := Int.eq_ofNat_of_zero_le h0
  have hk : k < 256 := by omega
  clear h0 h1
  revert k
  decide +kernel

theorem Yn (c : Int) (h0 : 0 ≤ c) (h1 : c ≤ 255) : Fn Tryz.prog 111 #[.int .u8 c] [] (fun v l => v = .bool (Q8 c) ∧ l = []) := by
 refine Qo (vs := [.int .u8 c]) Tryz.func111 rfl Tryz.ntmps111 rfl (Qb (Qa (Qd rfl rfl (WpL.nil (Qb (Qa (Qc rfl rfl (Qk rfl rfl (by repeat' constructor) (Fn.of_same (Tryz.strings_IndexByte _ _)) ?_))))))))
 rintro _ _ ⟨rfl, rfl⟩
 simp only [Qv]
 refine s_ge rfl rfl rfl (Qd rfl rfl (WpL.nil (Qg ?_)))
 apply RetQ.mk
 ·exact (Res.one rfl rfl)
 ·exact ⟨congrArg Value.bool (blank_ix c h0 h1), rfl⟩
 ·exact Ent.refl _

theorem Raw_spec (K W H M : Int) : Fn Tryz.prog 76 #[.agg #[.int .i64 K, .int .i64 W, .int .i64 H, .int .i64 M]] [] (fun v l => v = .bool (decide (4 ≤ K ∧ K ≤ 6)) ∧ l = []) := by
 refine Qo (vs := [.agg #[.int .i64 K, .int .i64 W, .int .i64 H, .int .i64 M]]) Tryz.func76 rfl Tryz.ntmps76 rfl (Qb (Qa (Xf rfl rfl rfl ?_)))
 intro g1
 refine Qd rfl rfl (WpL.nil (Qb (Qa (Qj (o2 := 0) rfl rfl rfl (Qm rfl rfl (by rfl) ?_)))))
 refine s_ge rfl rfl rfl (Qc rfl rfl (QP rfl rfl rfl (fun hg1 => ?_) (fun hg1 => ?_)))
 ·have hg1 := of_decide_eq_true hg1
  refine Qj (o2 := 0) rfl rfl rfl (Qf rfl rfl (Qm rfl rfl (by rfl) ?_))
  refine Qf rfl rfl (s_le rfl rfl rfl (Qr rfl rfl rfl (Qd rfl rfl (WpL.nil (Qg ?_)))))
  apply RetQ.mk
  ·exact (Res.one rfl rfl)
  ·exact ⟨congrArg Value.bool (by exact dd (by omega)), rfl⟩
  ·exact Ent.nil _
 ·have hg1 := of_decide_eq_false hg1
  refine Qe rfl rfl rfl (by decide) (Qe rfl rfl rfl (by decide) (Qu rfl rfl rfl (Qd rfl rfl (WpL.nil (Qg ?_)))))
  apply RetQ.mk
  ·exact (Res.one rfl rfl)
  ·exact ⟨congrArg Value.bool (by exact df (by omega)), rfl⟩
  ·exact Ent.nil _

theorem bits_spec (K W H M : Int) : Fn Tryz.prog 136 #[.agg #[.int .i64 K, .int .i64 W, .int .i64 H, .int .i64 M]] [] (fun v l => v = .bool (decide (K = 1 ∨ K = 4)) ∧ l = []) := by
 refine Qo (vs := [.agg #[.int .i64 K, .int .i64 W, .int .i64 H, .int .i64 M]]) Tryz.func136 rfl Tryz.ntmps136 rfl (Qb (Qa (Xf rfl rfl rfl ?_)))
 intro g1
 refine Qd rfl rfl (WpL.nil (Qb (Qa (Qj (o2 := 0) rfl rfl rfl (Qm rfl rfl (by rfl) ?_)))))
 refine QJ rfl rfl rfl (Qc rfl rfl (QP rfl rfl rfl (fun hg1 => ?_) (fun hg1 => ?_)))
 ·have hg1 := of_decide_eq_false hg1
  refine Qj (o2 := 0) rfl rfl rfl (Qf rfl rfl (Qm rfl rfl (by rfl) ?_))
  refine Qf rfl rfl (QJ rfl rfl rfl (Qu rfl rfl rfl (Qd rfl rfl (WpL.nil (Qg ?_)))))
  apply RetQ.mk
  ·exact (Res.one rfl rfl)
  ·exact ⟨congrArg Value.bool (by exact dd (by omega)), rfl⟩
  ·exact Ent.nil _
 ·have hg1 := of_decide_eq_true hg1
  refine Qe rfl rfl rfl (by decide) (Qe rfl rfl rfl (by decide) (Qr rfl rfl rfl (Qd rfl rfl (WpL.nil (Qg ?_)))))
  apply RetQ.mk
  ·exact (Res.one rfl rfl)
  ·exact ⟨congrArg Value.bool (by exact dt (by omega)), rfl⟩
  ·exact Ent.nil _

theorem in_spec (x y : Int) : Fn Tryz.prog 176 #[.int .i64 x, .int .i64 y] [] (fun v l => v = .bool (decide (1 ≤ x ∧ x ≤ y)) ∧ l = []) := by
 refine Qo (vs := [.int .i64 x, .int .i64 y]) Tryz.func176 rfl Tryz.ntmps176 rfl (Qb (Qa (Qd rfl rfl (WpL.nil (Qb (Qa (Qc rfl rfl (s_ge rfl rfl rfl (Qc rfl rfl (QP rfl rfl rfl (fun hg1 => ?_) (fun hg1 => ?_)))))))))))
 ·have hg1 := of_decide_eq_true hg1
  refine Qc rfl rfl (Qf rfl rfl (Qc rfl rfl (Qf rfl rfl (s_le rfl rfl rfl (Qr rfl rfl rfl (Qd rfl rfl (WpL.nil (Qg ?_))))))))
  apply RetQ.mk
  ·exact (Res.one rfl rfl)
  ·exact ⟨congrArg Value.bool (by exact dd (by omega)), rfl⟩
  ·exact Ent.refl _
 ·have hg1 := of_decide_eq_false hg1
  refine Qe rfl rfl rfl (by decide) (Qe rfl rfl rfl (by decide) (Qu rfl rfl rfl (Qd rfl rfl (WpL.nil (Qg ?_)))))
  apply RetQ.mk
  ·exact (Res.one rfl rfl)
  ·exact ⟨congrArg Value.bool (by exact df (by omega)), rfl⟩
  ·exact Ent.refl _

def XN (K W H M : Int) : Prop := (1 ≤ K ∧ K ≤ 6) ∧ (1 ≤ W ∧ W ≤ 4096) ∧ (1 ≤ H ∧ H ≤ 65536) ∧ (1 ≤ M ∧ M ≤ 65535) ∧ ((K = 1 ∨ K = 4) → M = 1)
instance (K W H M : Int) : Decidable (XN K W H M) := by unfold XN; infer_instance

theorem May_spec (K W H M : Int) : Fn Tryz.prog 134 #[.agg #[.int .i64 K, .int .i64 W, .int .i64 H, .int .i64 M]] [] (fun v l => v = .bool (decide (XN K W H M)) ∧ l = []) := by
 refine Qo (vs := [.agg #[.int .i64 K, .int .i64 W, .int .i64 H, .int .i64 M]]) Tryz.func134 rfl Tryz.ntmps134 rfl (Qb (Qa (Xf rfl rfl rfl ?_)))
 intro g1
 refine Qd rfl rfl (WpL.nil (Qb (Qa (Qd rfl rfl (WpL.nil (Qb (Qa (Qc rfl rfl (Qj (o2 := 0) rfl rfl rfl (Qm rfl rfl (by rfl) ?_))))))))))
 refine Zb (u := []) (c := []) rfl rfl rfl rfl (by repeat' constructor) (in_spec _ _) ?_
 rintro _ _ ⟨rfl, rfl⟩
 simp only [Qv]
 refine Qc rfl rfl (QP rfl rfl rfl (fun hg1 => ?_) (fun hg1 => ?_))
 ·have hg1 := of_decide_eq_true hg1
  refine Qc rfl rfl (Qf rfl rfl (Qj (o2 := 1) rfl rfl rfl (Qf rfl rfl (Qm rfl rfl (by rfl) ?_))))
  refine Qf rfl rfl (Zb (u := []) (c := []) rfl rfl rfl rfl (by repeat' constructor) (in_spec _ _) ?_)
  rintro _ _ ⟨rfl, rfl⟩
  simp only [Qv]
  refine Qr rfl rfl rfl (Qc rfl rfl (QP rfl rfl rfl (fun hg2 => ?_) (fun hg2 => ?_)))
  ·have hg2 := of_decide_eq_true hg2
   refine Qc rfl rfl (Qf rfl rfl (Qj (o2 := 2) rfl rfl rfl (Qf rfl rfl (Qm rfl rfl (by rfl) ?_))))
   refine Qf rfl rfl (Zb (u := []) (c := []) rfl rfl rfl rfl (by repeat' constructor) (in_spec _ _) ?_)
   rintro _ _ ⟨rfl, rfl⟩
   simp only [Qv]
   refine Qr rfl rfl rfl (Qc rfl rfl (QP rfl rfl rfl (fun hg3 => ?_) (fun hg3 => ?_)))
   ·have hg3 := of_decide_eq_true hg3
    refine Qc rfl rfl (Qf rfl rfl (Qj (o2 := 3) rfl rfl rfl (Qf rfl rfl (Qm rfl rfl (by rfl) ?_))))
    refine Qf rfl rfl (Zb (u := []) (c := []) rfl rfl rfl rfl (by repeat' constructor) (in_spec _ _) ?_)
    rintro _ _ ⟨rfl, rfl⟩
    simp only [Qv]
    refine Qr rfl rfl rfl (Qc rfl rfl (QP rfl rfl rfl (fun hg4 => ?_) (fun hg4 => ?_)))
    ·have hg4 := of_decide_eq_true hg4
     refine Qz (vs := [_, _, _, _]) rfl rfl rfl (by rfl) ?_
     refine Qf rfl rfl (Qk rfl rfl (by repeat' constructor) (bits_spec _ _ _ _) ?_)
     rintro _ _ ⟨rfl, rfl⟩
     simp only [Qv]
     refine Qf rfl rfl (Yt rfl rfl (Qf rfl rfl (Qc rfl rfl (QP rfl rfl rfl (fun hg5 => ?_) (fun hg5 => ?_)))))
     ·have hg5 := of_decide_eq_false hg5
      refine Qj (o2 := 3) rfl rfl rfl (Qf rfl rfl (Qm rfl rfl (by rfl) ?_))
      refine Qf rfl rfl (QJ rfl rfl rfl (Qf rfl rfl (Qu rfl rfl rfl (Qr rfl rfl rfl (Qd rfl rfl (WpL.nil (Qg ?_)))))))
      apply RetQ.mk
      ·exact (Res.one rfl rfl)
      ·exact ⟨congrArg Value.bool (by exact dd (by unfold XN; omega)), rfl⟩
      ·exact Ent.nil _
     ·have hg5 := of_decide_eq_true hg5
      refine Qe rfl rfl rfl (by decide) (Qe rfl rfl rfl (by decide) (Qf rfl rfl (Qr rfl rfl rfl (Qr rfl rfl rfl (Qd rfl rfl (WpL.nil (Qg ?_)))))))
      apply RetQ.mk
      ·exact (Res.one rfl rfl)
      ·exact ⟨congrArg Value.bool (by exact dt (by unfold XN; omega)), rfl⟩
      ·exact Ent.nil _
    ·have hg4 := of_decide_eq_false hg4
     refine Qe rfl rfl rfl (by decide) (Qe rfl rfl rfl (by decide) (Qe rfl rfl rfl (by decide) (Q6 rfl rfl rfl (Q6 rfl rfl rfl (Q6 rfl rfl rfl (Qe rfl rfl rfl (by decide) (Qu rfl rfl rfl (Qd rfl rfl (WpL.nil (Qg ?_))))))))))
     apply RetQ.mk
     ·exact (Res.one rfl rfl)
     ·exact ⟨congrArg Value.bool (by exact df (by unfold XN; omega)), rfl⟩
     ·exact Ent.nil _
   ·have hg3 := of_decide_eq_false hg3
    refine Qe rfl rfl rfl (by decide) (Qe rfl rfl rfl (by decide) (Qe rfl rfl rfl (by decide) (Qu rfl rfl rfl (Qc rfl rfl (Qe rfl rfl rfl (by decide) (Qe rfl rfl rfl (by decide) (Qe rfl rfl rfl (by decide) (Qe rfl rfl rfl (by decide) (Q6 rfl rfl rfl (Q6 rfl rfl rfl (Q6 rfl rfl rfl (Qe rfl rfl rfl (by decide) ?_))))))))))))
    refine Qu rfl rfl rfl (Qd rfl rfl (WpL.nil (Qg ?_)))
    apply RetQ.mk
    ·exact (Res.one rfl rfl)
    ·exact ⟨congrArg Value.bool (by exact df (by unfold XN; omega)), rfl⟩
    ·exact Ent.nil _
  ·have hg2 := of_decide_eq_false hg2
   refine Qe rfl rfl rfl (by decide) (Qe rfl rfl rfl (by decide) (Qe rfl rfl rfl (by decide) (Qu rfl rfl rfl (Qc rfl rfl (Qe rfl rfl rfl (by decide) (Qe rfl rfl rfl (by decide) (Qe rfl rfl rfl (by decide) (Qe rfl rfl rfl (by decide) (Qu rfl rfl rfl (Qc rfl rfl (Qe rfl rfl rfl (by decide) (Qe rfl rfl rfl (by decide) ?_))))))))))))
   refine Qe rfl rfl rfl (by decide) (Qe rfl rfl rfl (by decide) (Q6 rfl rfl rfl (Q6 rfl rfl rfl (Q6 rfl rfl rfl (Qe rfl rfl rfl (by decide) (Qu rfl rfl rfl (Qd rfl rfl (WpL.nil (Qg ?_)))))))))
   apply RetQ.mk
   ·exact (Res.one rfl rfl)
   ·exact ⟨congrArg Value.bool (by exact df (by unfold XN; omega)), rfl⟩
   ·exact Ent.nil _
 ·have hg1 := of_decide_eq_false hg1
  refine Qe rfl rfl rfl (by decide) (Qe rfl rfl rfl (by decide) (Qe rfl rfl rfl (by decide) (Qu rfl rfl rfl (Qc rfl rfl (Qe rfl rfl rfl (by decide) (Qe rfl rfl rfl (by decide) (Qe rfl rfl rfl (by decide) (Qe rfl rfl rfl (by decide) (Qu rfl rfl rfl (Qc rfl rfl (Qe rfl rfl rfl (by decide) (Qe rfl rfl rfl (by decide) ?_))))))))))))
  refine Qe rfl rfl rfl (by decide) (Qe rfl rfl rfl (by decide) (Qu rfl rfl rfl (Qc rfl rfl (Qe rfl rfl rfl (by decide) (Qe rfl rfl rfl (by decide) (Qe rfl rfl rfl (by decide) (Qe rfl rfl rfl (by decide) (Q6 rfl rfl rfl (Q6 rfl rfl rfl (Q6 rfl rfl rfl (Qe rfl rfl rfl (by decide) (Qu rfl rfl rfl ?_))))))))))))
  refine Qd rfl rfl (WpL.nil (Qg ?_))
  apply RetQ.mk
  ·exact (Res.one rfl rfl)
  ·exact ⟨congrArg Value.bool (by exact df (by unfold XN; omega)), rfl⟩
  ·exact Ent.nil _

theorem YX (K W H M : Int) (hK : 0 ≤ K) : Fn Tryz.prog 79 #[.agg #[.int .i64 K, .int .i64 W, .int .i64 H, .int .i64 M]] [] (fun v l => v = .agg #[.int .i64 (if K % 3 = 0 then 3 else 1), .int .i64 M] ∧ l = []) := by
 refine Qo (vs := [.agg #[.int .i64 K, .int .i64 W, .int .i64 H, .int .i64 M]]) Tryz.func79 rfl Tryz.ntmps79 rfl (Qb (Qa (Xf rfl rfl rfl ?_)))
 intro g1
 refine X6 rfl ?_
 intro g2
 refine WpL.nil (Qb (Qb (Qa (Qj (o2 := 0) rfl rfl rfl (Qm rfl rfl (by rfl) ?_)))))
 refine YO rfl rfl rfl (by omega) (by omega) ?_
 refine QJ rfl rfl rfl (WpL.nil (Qh rfl (fun h0 => ?_) (fun h0 => ?_)))
 ·refine Qb (Qa (Qj (o2 := 3) rfl rfl rfl (Qm rfl rfl (by rfl) ?_)))
  refine Xl rfl rfl ?_
  refine QE rfl rfl rfl (by rfl) rfl ?_
  refine WpL.nil (Qg ?_)
  apply RetQ.mk
  ·exact (Xj rfl rfl (by rfl))
  ·exact ⟨by rw [if_pos (by assumption)], rfl⟩
  ·exact Ent.nil _
 ·refine Wp.skip (Qb (Qa (Qj (o2 := 3) rfl rfl rfl (Qm rfl rfl (by rfl) ?_))))
  refine Xl rfl rfl ?_
  refine QE rfl rfl rfl (by rfl) rfl ?_
  refine WpL.nil (Qg ?_)
  apply RetQ.mk
  ·exact (Xj rfl rfl (by rfl))
  ·exact ⟨by rw [if_neg (by assumption)], rfl⟩
  ·exact Ent.nil _

end Go.Proofs.YtggamdlpiejbiaaGreat
