/- Texts, rows of bytes that become texts, rows that are made and written. -/
import Derived.Test.YtpoahaadnbdgcaaDrawG
import Derived.Test.YtpoahaadnbdgcaaLoop
import Derived.Laws.Concat
import Derived.Laws.Strings2
import Derived.Laws.BytesArg
import Derived.Laws.MakeOwn
namespace Go.Proofs.Ytpoahaadnbdgcaa
open Go.RowKit Go.Shelf
section
variable {P : Program} {n : Cx} {D : List Deferred} {ops : Array Oper} {rest : List Oper} {Q : Post} {fr : Fr} {l : List HP} {ty : Nat} {pos : String} {aft : Array Edge}
theorem s_cat {d T T2 : Nat} {x y : Operand} {a b : ByteArray} (hd : Nat.blt d n = true) (hx : ev fr x = some (.string a)) (hy : ev fr y = some (.string b)) (hs : a.size + b.size ≤ 9223372036854775807)
    (k : WpL P n D ops rest Q ((d, .string (a ++ b)) :: fr) l) : WpL P n D ops (⟨some d, .binOp .add T x y T2, ty, pos, aft, none⟩ :: rest) Q fr l :=
  WpL.val hd (fun A w _ hh _ => by
    have := run_string_add_sum (P := P) (w := w) a b hs
    simp [execOp, hh.ev hx, hh.ev hy, eqGuard, binOp, this]) k
theorem s_slsm {d T : Nat} {x y y2 : Operand} {s : ByteArray} {k1 k2 : IntKind} {i j : Int} (hd : Nat.blt d n = true) (hT : P.underlying T = some .string) (hx : ev fr x = some (.string s)) (hy : ev fr y = some (.int k1 i)) (hy2 : ev fr y2 = some (.int k2 j)) (h0 : 0 ≤ i) (h1 : i ≤ j) (h2 : j ≤ s.size)
    (k : WpL P n D ops rest Q ((d, .string (s.extract i.toNat j.toNat)) :: fr) l) : WpL P n D ops (⟨some d, .slice T x (some y) (some y2) none, ty, pos, aft, none⟩ :: rest) Q fr l :=
  WpL.val hd (fun A w U hh hs => by
    have := run_slice_string (P := P) (w := w) T s k1 k2 i j hT h0 h1 h2
    simp [execOp, Instr.sliceAt, run_underlying hT, hh.ev hx, hh.ev hy, hh.ev hy2, this]) k
theorem s_b2s {d T1 T2 e g c m T3 : Nat} {x : Operand} {xs : List Int} (hd : Nat.blt d n = true) (h1 : P.underlying T1 = some (.slice e)) (h2 : P.underlying e = some (.int .u8)) (h3 : P.underlying T2 = some .string) (hx : ev fr x = some (.slice (some ⟨g, 0, none⟩) m c)) [hb : HasBlk l g (u8s xs) T3] (hm : xs.length = m)
    (k : WpL P n D ops rest Q ((d, .string (strOfNums xs)) :: fr) l) : WpL P n D ops (⟨some d, .convert T1 T2 x, ty, pos, aft, none⟩ :: rest) Q fr l :=
  WpL.val hd (fun A w U hh hs => by
    have hg := hb.sat hs
    have := run_convert_bytes_arg (P := P) w T1 e h1 h2 g 0 m c xs hm (fun i hi => by
      rw [Nat.zero_add, cell_of_row w g i _ _ _ hg]
      have hi2 : i < xs.length := by omega
      simp [u8s, List.getElem?_map, List.getD, List.getElem?_eq_getElem hi2]) T2 h3
    simp [execOp, hh.ev hx, this]) k
theorem s_mkF {d t e by_ : Nat} {z : Value} {x : Operand} {i : Int} (hd : Nat.blt d n = true) [ht : SlT P t e 1 by_ z] (hx : ev fr x = some (.int .i64 i)) (h0 : 0 ≤ i) (hb : (by_ : Int) * i ≤ 281474976710656) (h63 : i ≤ 9223372036854775807) (hz : z.cells = #[z])
    (k : ∀ g, WpL P n D ops rest Q ((d, .slice (some ⟨g, 0, none⟩) i.toNat i.toNat) :: fr) (blk g (List.replicate i.toNat z) e :: l)) : WpL P n D ops (⟨some d, .makeSlice t x x, ty, pos, aft, none⟩ :: rest) Q fr l := by
  refine WpL.valx hd (fun g => .slice (some ⟨g, 0, none⟩) i.toNat i.toNat) (fun g => blk g (List.replicate i.toNat z) e :: l) (fun a w U hh hs => ⟨w.heap.size, _, ?_, out_alloc hs (List.replicate i.toNat z) e⟩) k
  obtain ⟨i0, hi, hz0, hz1, hz2⟩ := info_parts ht.hi
  have h1 := run_make (P := P) w t e i0 z ht.hu hi hz0 .i64 .i64 i i h0 (Int.le_refl _) (by rw [hz2]; exact hb) h63
  have h2 : madeCells z.cells (i.toNat * i0.size) = (List.replicate i.toNat z).toArray := by
    rw [hz1, Nat.mul_one, hz]
    apply Array.ext'
    simp [madeCells, Nat.mod_one, List.map_const']
  rw [h2] at h1
  simp [execOp, hh.ev hx, h1]
instance SameLen.set {cs : List Value} {o : Nat} {v : Value} : SameLen cs (cs.set o v) := ⟨by simp⟩
theorem s_stk {T g o : Nat} {x y : Operand} {cs : List Value} {T2 : Nat} {v : Value} {l' : List HP} [hT : Scal P T] (hx : ev fr x = some (.pointer (some ⟨g, o, none⟩))) (hy : ev fr y = some v) (h1 : v.oneCell' = true)
    [hb : HasBlk l g cs T2] (ho : o < cs.length) [hsb : SetBlk l g (cs.set o v) l'] (k : WpL P n D ops rest Q fr l') : WpL P n D ops (⟨none, .store T x y, ty, pos, aft, none⟩ :: rest) Q fr l :=
  s_st (hn := ⟨⟨rfl, ho⟩⟩) hx hy h1 k
theorem s_bs6 {d t e by_ : Nat} {z v v2 v3 v4 v5 v6 : Value} {x x2 x3 x4 x5 x6 : Operand} (hd : Nat.blt d n = true) [ht : SlT P t e 1 by_ z] (hx : ev fr x = some v) (hx2 : ev fr x2 = some v2) (hx3 : ev fr x3 = some v3) (hx4 : ev fr x4 = some v4) (hx5 : ev fr x5 = some v5) (hx6 : ev fr x6 = some v6) (hz : z.cells.size = 1)
    (hv : v.cells = #[v]) (hv2 : v2.cells = #[v2]) (hv3 : v3.cells = #[v3]) (hv4 : v4.cells = #[v4]) (hv5 : v5.cells = #[v5]) (hv6 : v6.cells = #[v6])
    (k : ∀ g, WpL P n D ops rest Q ((d, .slice (some ⟨g, 0, none⟩) 6 6) :: fr) (blk g [v, v2, v3, v4, v5, v6] e :: l)) : WpL P n D ops (⟨some d, .buildSlice t 6 #[(0, x), (1, x2), (2, x3), (3, x4), (4, x5), (5, x6)], ty, pos, aft, none⟩ :: rest) Q fr l :=
  s_bs (os := [(0, x), (1, x2), (2, x3), (3, x4), (4, x5), (5, x6)]) [v, v2, v3, v4, v5, v6] hd hz rfl (by simp [hv, hv2, hv3, hv4, hv5, hv6]) (by simp) (fun a hh => by simp [hh.ev hx, hh.ev hx2, hh.ev hx3, hh.ev hx4, hh.ev hx5, hh.ev hx6]) k
theorem str_beq (a b : ByteArray) : (a.toList == b.toList) = decide (a = b) := by
  rw [ByteArray.toList_eq, ByteArray.toList_eq, Bool.eq_iff_iff, beq_iff_eq, decide_eq_true_eq]
  constructor
  · intro h
    apply ByteArray.ext
    exact Array.ext' h
  · rintro rfl; rfl
theorem s_seq {d T T2 : Nat} {x y : Operand} {a b : ByteArray} (hd : Nat.blt d n = true) (hx : ev fr x = some (.string a)) (hy : ev fr y = some (.string b))
    (k : WpL P n D ops rest Q ((d, .bool (decide (a = b))) :: fr) l) : WpL P n D ops (⟨some d, .binOp .eql T x y T2, ty, pos, aft, none⟩ :: rest) Q fr l :=
  WpL.val hd (fun A w _ hh _ => by simp [execOp, hh.ev hx, hh.ev hy, eqGuard, binOp_string_eql, str_beq]) k
theorem s_sne {d T T2 : Nat} {x y : Operand} {a b : ByteArray} (hd : Nat.blt d n = true) (hx : ev fr x = some (.string a)) (hy : ev fr y = some (.string b))
    (k : WpL P n D ops rest Q ((d, .bool (decide (a ≠ b))) :: fr) l) : WpL P n D ops (⟨some d, .binOp .neq T x y T2, ty, pos, aft, none⟩ :: rest) Q fr l :=
  WpL.val hd (fun A w _ hh _ => by simp [execOp, hh.ev hx, hh.ev hy, eqGuard, binOp_string_neq, str_beq]) k
theorem bsOf_inj {a b : ByteArray} (h : bsOf a = bsOf b) : a = b := by
  apply ByteArray.ext
  apply Array.ext'
  unfold bsOf at h
  generalize a.data.toList = l at h
  generalize b.data.toList = m at h
  induction l generalizing m with
  | nil => cases m with
    | nil => rfl
    | cons y m => cases h
  | cons x l ih => cases m with
    | nil => cases h
    | cons y m =>
      simp only [List.map_cons, List.cons.injEq] at h
      rw [ih m h.2, UInt8.toNat.inj (by exact_mod_cast h.1 : x.toNat = y.toNat)]
end
end Go.Proofs.Ytpoahaadnbdgcaa
