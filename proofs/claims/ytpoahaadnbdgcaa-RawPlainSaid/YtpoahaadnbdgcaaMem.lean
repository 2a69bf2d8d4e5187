/- Rows of one's own: elements written, bytes that become a text. -/
import Derived.Test.YtpoahaadnbdgcaaStr
import Derived.Test.YtpoahaadnbdgcaaRange
import Derived.DataElems
namespace Go.Proofs.Ytpoahaadnbdgcaa
open Go.RowKit Go.Shelf
section
variable {P : Program} {n : Cx} {D : List Deferred} {ops : Array Oper} {rest : List Oper} {Q : Post} {fr : Fr} {l : List HP} {ty : Nat} {pos : String} {aft : Array Edge}

theorem own_put {w : World} {U : Nat → Prop} {T c m g k : Nat} {xs : List Value} {F : List HP} (h : Sat w (own T 1 (some ⟨g, 0, none⟩) c m xs :: F) U) (v : Value) :
    Out (own T 1 (some ⟨g, 0, none⟩) c m (xs.set k v) :: F) U w (w.setCell ⟨g, k, none⟩ v) := by
  obtain ⟨V, ⟨S, ⟨hS, hown⟩, hSV, _⟩, hfr⟩ := Out.frame (pre := [own T 1 (some ⟨g, 0, none⟩) c m xs]) (F := F) h
  refine hfr [own T 1 (some ⟨g, 0, none⟩) c m (xs.set k v)] _ ⟨⟨S, ⟨hS, ?_⟩, fun b hb => .inl (hSV b hb), trivial⟩, rfl, rfl, rfl, by simp, fun b hb hn => heap_setCell_other w _ b v fun e => hn (hSV b ((hS b).2 ⟨_, rfl, e⟩))⟩
  refine ⟨by rw [List.length_set]; exact hown.1, ?_⟩
  rcases hown.2 with ⟨e, _⟩ | ⟨g', cap, cur, e, hb, hg, h1, h2, h3, h4⟩
  · cases e
  · injection e with e1 e2 e3
    injection e1 with e1
    injection e1 with e1 _ _
    subst e1
    refine .inr ⟨g, cap, cur.setIfInBounds k v, by rw [e3], hb, ?_, h1, h2, by simpa using h3, ?_⟩
    · exact heap_setCell_same w g k cur T v hg
    · rw [Array.toList_setIfInBounds, List.take_set, h4]
/-- An element of a row of one's own, written. -/
theorem s_sto {T T2 k : Nat} {x y : Operand} {a : Option Addr} {c m : Nat} {xs : List Value} {v : Value} {F : List HP} [hT : Scal P T] (hx : ev fr x = some (.pointer (a.map fun ad => ad.add k))) (hy : ev fr y = some v) (h1 : v.oneCell' = true)
    (htk : Take l [own T2 1 a c m xs] F) (hk : k < xs.length) (kn : WpL P n D ops rest Q fr (own T2 1 a c m (xs.set k v) :: F)) : WpL P n D ops (⟨none, .store T x y, ty, pos, aft, none⟩ :: rest) Q fr l := by
  refine WpL.skp (m := own T2 1 a c m (xs.set k v) :: F) (fun A w U hh hs => ?_) kn
  have h2 := htk.ent w U hs
  have h3 := h2
  obtain ⟨S, hp, _⟩ := h3
  have hne : xs ≠ [] := fun e => by simp [e] at hk
  rcases own_form hp with ⟨_, _, _, rfl⟩ | ⟨g, cur, rfl, hg, _, _, h4, _⟩
  · exact absurd rfl hne
  · refine ⟨w.setCell ⟨g, k, none⟩ v, ?_, own_put h2 v⟩
    have hc : w.cell? ⟨g, k, none⟩ = some (xs[k]'hk) := by
      have := own_cells hp rfl k (xs[k]'hk) (List.getElem?_eq_getElem hk)
      simpa [add0] using this
    have hfz := frozen_of_row w g k _ _ hg
    have hcell : v.cells = #[v] := by cases v <;> simp [Value.oneCell'] at h1 <;> rfl
    have hst := run_store P w ⟨g, k, none⟩ v .plain h1
    rw [hc] at hst
    simp only [hfz] at hst
    have hx' := hh.ev hx
    simp only [Option.map_some, add0, Nat.zero_add] at hx'
    simp [execOp, hx', hh.ev hy, Instr.storeAt, Instr.sureAddr, storeVar, hcell, hT.size, storeCells, add0, hst]
theorem s_b2so {d T1 T2 e c m T3 : Nat} {x : Operand} {a : Option Addr} {xs : List Int} {F : List HP} (hd : Nat.blt d n = true) (h1 : P.underlying T1 = some (.slice e)) (h2 : P.underlying e = some (.int .u8)) (h3 : P.underlying T2 = some .string) (hx : ev fr x = some (.slice a m c)) (htk : Take l [own T3 1 a c m (u8s xs)] F)
    (k : WpL P n D ops rest Q ((d, .string (strOfNums xs)) :: fr) l) : WpL P n D ops (⟨some d, .convert T1 T2 x, ty, pos, aft, none⟩ :: rest) Q fr l :=
  WpL.val hd (fun A w U hh hs => by
    obtain ⟨S, hp, _⟩ := htk.ent' w U hs
    have hl := hp.2.1
    rw [u8s_len, Nat.mul_one] at hl
    rcases own_form hp with ⟨rfl, _, rfl, h5⟩ | ⟨g, cur, rfl, hg, _, _, h4, _⟩
    · have : xs = [] := List.eq_nil_of_length_eq_zero hl
      subst this
      have := run_convert_bytes_nil (P := P) (w := w) T1 e h1 h2 0 c T2 h3
      simp [execOp, hh.ev hx, this]
      rfl
    · have := run_convert_bytes_arg (P := P) w T1 e h1 h2 g 0 m c xs hl (fun i hi => by
        have hi2 : i < xs.length := by omega
        have := own_cells hp rfl i (.int .u8 (xs[i]'hi2)) (u8s_at xs hi2)
        simpa [add0, List.getD, List.getElem?_eq_getElem hi2] using this) T2 h3
      simp [execOp, hh.ev hx, this]) k

/-! parts of slices -/
def sla (a : Option Addr) (L M s : Nat) : Option Addr := if M = L then a else a.map fun ad => ad.add (L * s)
theorem sla_zero (a : Option Addr) (M s : Nat) : sla a 0 M s = a := by
  unfold sla
  split
  · rfl
  · cases a <;> simp [Addr.add]
theorem RdsL.sla {As : List HP} {a : Option Addr} {xs : List Value} (h : RdsL As a xs) (L H M s : Nat) (hM : H ≤ M) : RdsL As (Go.Proofs.Ytpoahaadnbdgcaa.sla a L M s) ((xs.drop (L * s)).take ((H - L) * s)) := by
  unfold Go.Proofs.Ytpoahaadnbdgcaa.sla
  split
  · rename_i e
    rw [show H - L = 0 by omega, Nat.zero_mul, List.take_zero]
    exact RdsL.nil
  · intro w U hs
    obtain ⟨h1, h2⟩ := h w U hs
    refine ⟨fun hne => ?_, fun ad ha j u hu => ?_⟩
    · rw [Option.isSome_map]
      exact h1 fun e => hne (by simp [e])
    · cases a with
      | none => simp at ha
      | some b =>
        simp only [Option.map_some, Option.some.injEq] at ha
        subst ha
        rw [Addr.add_add]
        rw [List.getElem?_take] at hu
        split at hu
        · rw [List.getElem?_drop] at hu
          exact h2 b rfl _ u hu
        · cases hu
theorem s_sll_h {d t e s by_ m c H : Nat} {z : Value} {x y : Operand} {a : Option Addr} {kk : IntKind} {j : Int} (hd : Nat.blt d n = true) [ht : SlT P t e s by_ z] (hx : ev fr x = some (.slice a m c)) (hy : ev fr y = some (.int kk j)) (hj : j = (H : Int)) (h2 : H ≤ c)
    (k : WpL P n D ops rest Q ((d, .slice a H c) :: fr) l) : WpL P n D ops (⟨some d, .slice t x none (some y) none, ty, pos, aft, none⟩ :: rest) Q fr l :=
  WpL.val hd (fun A w U hh hs => by
    obtain ⟨i0, hi0, hz0, hz1, hz2⟩ := info_parts ht.hi
    subst hj
    simp [execOp, Instr.sliceAt, Instr.slice, Instr.sliceBounds, Instr.sliceBound, hh.ev hx, hh.ev hy, asIntOf, run_underlying ht.hu, sizeOf, typeInfo, hi0, h2, Addr.add]) k
theorem s_sll_l {d t e s by_ m c L : Nat} {z : Value} {x y : Operand} {a : Option Addr} {kk : IntKind} {i : Int} (hd : Nat.blt d n = true) [ht : SlT P t e s by_ z] (hx : ev fr x = some (.slice a m c)) (hy : ev fr y = some (.int kk i)) (hi : i = (L : Int)) (h1 : L ≤ m)
    (k : WpL P n D ops rest Q ((d, .slice (sla a L c s) (m - L) (c - L)) :: fr) l) : WpL P n D ops (⟨some d, .slice t x (some y) none none, ty, pos, aft, none⟩ :: rest) Q fr l :=
  WpL.val hd (fun A w U hh hs => by
    obtain ⟨i0, hi0, hz0, hz1, hz2⟩ := info_parts ht.hi
    subst hi
    simp [execOp, Instr.sliceAt, Instr.slice, Instr.sliceBounds, Instr.sliceBound, hh.ev hx, hh.ev hy, asIntOf, run_underlying ht.hu, sizeOf, typeInfo, hi0, hz1, h1, sla]) k
theorem s_sll_lh {d t e s by_ m c L H : Nat} {z : Value} {x y y2 : Operand} {a : Option Addr} {k1 k2 : IntKind} {i j : Int} (hd : Nat.blt d n = true) [ht : SlT P t e s by_ z] (hx : ev fr x = some (.slice a m c)) (hy : ev fr y = some (.int k1 i)) (hy2 : ev fr y2 = some (.int k2 j)) (hi : i = (L : Int)) (hj : j = (H : Int)) (h1 : L ≤ H) (h2 : H ≤ c)
    (k : WpL P n D ops rest Q ((d, .slice (sla a L c s) (H - L) (c - L)) :: fr) l) : WpL P n D ops (⟨some d, .slice t x (some y) (some y2) none, ty, pos, aft, none⟩ :: rest) Q fr l :=
  WpL.val hd (fun A w U hh hs => by
    obtain ⟨i0, hi0, hz0, hz1, hz2⟩ := info_parts ht.hi
    subst hi; subst hj
    simp [execOp, Instr.sliceAt, Instr.slice, Instr.sliceBounds, Instr.sliceBound, hh.ev hx, hh.ev hy, hh.ev hy2, asIntOf, run_underlying ht.hu, sizeOf, typeInfo, hi0, hz1, h1, h2, sla]) k
theorem s_sll_lhm {d t e s by_ m c L H M : Nat} {z : Value} {x y y2 y3 : Operand} {a : Option Addr} {k1 k2 k3 : IntKind} {i j q : Int} (hd : Nat.blt d n = true) [ht : SlT P t e s by_ z] (hx : ev fr x = some (.slice a m c)) (hy : ev fr y = some (.int k1 i)) (hy2 : ev fr y2 = some (.int k2 j)) (hy3 : ev fr y3 = some (.int k3 q)) (hi : i = (L : Int)) (hj : j = (H : Int)) (hq : q = (M : Int)) (h1 : L ≤ H) (h2 : H ≤ M) (h3 : M ≤ c)
    (k : WpL P n D ops rest Q ((d, .slice (sla a L M s) (H - L) (M - L)) :: fr) l) : WpL P n D ops (⟨some d, .slice t x (some y) (some y2) (some y3), ty, pos, aft, none⟩ :: rest) Q fr l :=
  WpL.val hd (fun A w U hh hs => by
    obtain ⟨i0, hi0, hz0, hz1, hz2⟩ := info_parts ht.hi
    subst hi; subst hj; subst hq
    simp [execOp, Instr.sliceAt, Instr.slice, Instr.sliceBounds, Instr.sliceBound, hh.ev hx, hh.ev hy, hh.ev hy2, hh.ev hy3, asIntOf, run_underlying ht.hu, sizeOf, typeInfo, hi0, hz1, h1, h2, h3, sla]) k

/-- What a row of one's own tells of itself. -/
theorem WpL.ownLe {T s c m : Nat} {a : Option Addr} {xs : List Value} {F : List HP} (ht : Take1 l (own T s a c m xs) F) (k : m ≤ c → WpL P n D ops rest Q fr l) : WpL P n D ops rest Q fr l := fun A w U hh hs => by
  obtain ⟨S, hp, _⟩ := ht.ent w U hs
  rcases own_form hp with ⟨_, h1, h2, _⟩ | ⟨g, cur, e, _, hmc, _⟩
  · exact k (by omega) A w U hh hs
  · exact k hmc A w U hh hs
theorem WpL.ownSome {T s c m : Nat} {a : Option Addr} {xs : List Value} {F : List HP} (ht : Take1 l (own T s a c m xs) F) (hne : xs ≠ []) (k : ∀ g, a = some ⟨g, 0, none⟩ → WpL P n D ops rest Q fr l) : WpL P n D ops rest Q fr l := fun A w U hh hs => by
  obtain ⟨S, hp, _⟩ := ht.ent w U hs
  rcases own_form hp with ⟨_, _, _, e⟩ | ⟨g, cur, e, _, hmc, _⟩
  · exact absurd e hne
  · exact k g e A w U hh hs
end
end Go.Proofs.Ytpoahaadnbdgcaa
