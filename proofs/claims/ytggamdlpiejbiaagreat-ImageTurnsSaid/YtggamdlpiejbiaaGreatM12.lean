/- Walks and plain laws, a part of the proof of ImageTurns: every input that the law's guards let in, no condition beside. -/
import Derived.Lib.AppendStr
import Derived.Lib.UnsafeStr
import Derived.Lib.Builder
import Derived.Laws.Externs
import Derived.Test.YtggamdlpiejbiaaGreatM11
namespace Go.Proofs.YtggamdlpiejbiaaGreat
open Go.RowKit Go.Shelf

theorem take_all {xs : List Int} {k : Nat} {mx : Int} (h : ∀ x ∈ xs.take k, x ≤ mx) (hlt : k < xs.length) (hx : xs[k] ≤ mx) : ∀ x ∈ xs.take (k + 1), x ≤ mx := by
  intro x hxm
  rw [Xd xs hlt] at hxm
  rcases List.mem_append.1 hxm with hxm | hxm
  · exact h x hxm
  · have := List.mem_singleton.1 hxm; subst this; exact hx

theorem rFits_spec (p ch mx : Int) (h0 : 0 ≤ p) (h1 : p < 18446744073709551616) : Fn Tryz.prog 98 #[.int .u64 p, .agg #[.int .i64 ch, .int .i64 mx]] [] (fun v l => v = .bool (decide (X1 p ch mx)) ∧ l = []) := by
 have hul := Xs p
 refine Qk (vs := [.int .u64 p, .agg #[.int .i64 ch, .int .i64 mx]]) Tryz.func98 rfl Tryz.ntmps98 rfl (Qb (Qa (QP rfl rfl rfl ?_)))
 intro g1
 refine Qe rfl rfl (WpL.nil (Qb (Qa (Qd rfl rfl (Qg rfl rfl (by repeat' constructor) (rUnpack_spec _ (by omega) (by omega)) ?_)))))
 rintro _ _ ⟨A1, a1, c1, rfl, rfl, hA1, hn1⟩
 simp only [Qr]
 refine Qe rfl rfl (WpL.nil (Qb (Qb (Qa (Qe rfl rfl (WpL.nil (Wp.block ?_)))))))
 refine Wp.loopD (σ := Nat) (fun k => k ≤ (Qp p).length ∧ ∀ x ∈ (Qp p).take k, x ≤ mx) [4, 6, 10, 11, 12, 13, 14, 15, 16, 17, 18, 19, 20, 21, 22] (fun k => [(6, .int .i64 (k : Int))]) (fun k => [A1, QB g1 [.int .i64 ch, .int .i64 mx] 48]) (fun k => (Qp p).length - k) 0 ?_ (by repeat (first | exact FrLe.nil | refine FrLe.cons rfl ?_)) ?_ ?_
 ·exact ⟨Nat.zero_le _, by simp⟩
 ·exact Ent.refl _
 ·rintro k ⟨hk, hall⟩
  refine Qb (Qb (Qa (Qd rfl rfl (Qd rfl rfl (QK rfl rfl (Q6 rfl rfl rfl (WpL.nil (Qm rfl (fun h1 => ?_) (fun h1 => ?_)))))))))
  ·have hlt : k < (Qp p).length := by omega
   refine Wp.skip (Qb (Wp.block ?_))
   refine Qb ?_
   apply QS mixed [⟨16, _, []⟩, ⟨17, _, []⟩, ⟨18, _, [0, 1]⟩, ⟨19, _, [2]⟩, ⟨20, _, []⟩, ⟨21, _, [4]⟩, ⟨22, _, [3, 5]⟩] rfl
   ·refine AllObs.mk ?_ ?_
    ·exact Qd rfl rfl (Ql rfl)
    refine AllObs.mk ?_ ?_
    ·exact Qd rfl rfl (Ql rfl)
    refine AllObs.mk ?_ ?_
    ·refine Q3 k rfl rfl rfl hA1 (by exact Take.ent' (by repeat' constructor)) rfl (by omega) (by rw [QX]; omega) ?_
     exact Ql rfl
    refine AllObs.mk ?_ ?_
    ·refine Xb rfl rfl hA1 (by exact Take.ent' (by repeat' constructor)) (XX (Qp p) hlt) ?_
     exact Ql rfl
    refine AllObs.mk ?_ ?_
    ·exact Qj (o2 := 1) rfl rfl rfl (Ql rfl)
    refine AllObs.mk ?_ ?_
    ·refine Qo rfl rfl (by rfl) ?_
     exact Ql rfl
    refine AllObs.mk ?_ ?_
    ·exact s_gt rfl rfl rfl (Ql rfl)
    exact AllObs.nil
   ·refine Qm rfl (fun h2 => ?_) (fun h2 => ?_)
    ·refine Qb (Qa (Qe rfl rfl (WpL.nil (Qh ?_))))
     skip
     apply RetQ.mk
     ·exact (Res.one rfl rfl)
     ·exact ⟨congrArg Value.bool (df (fun hf => by have := hf.2.2 _ (List.getElem_mem hlt); omega)), rfl⟩
     ·exact Ent.nil _
    ·refine Wp.skip (Qa (Qd rfl rfl (QE rfl rfl rfl (Qt (by omega) (by omega)) ?_)))
     refine Qe rfl rfl (WpL.nil (Qy (k + 1) ?_ ?_ (by ((repeat (first | exact Top.refl | refine Top.push rfl ?_)); done)) (by repeat (first | exact FrLe.nil | refine FrLe.cons rfl ?_)) ?_))
     ·exact ⟨by omega, take_all hall hlt (by omega)⟩
     ·omega
     ·exact Ent.refl _
  ·refine QL (Qb (Qa ?_))
   refine Qz (vs := [_, _]) rfl rfl rfl (by rfl) ?_
   refine Qg rfl rfl (by repeat' constructor) (rFormat1_spec _ _) ?_
   rintro _ _ ⟨rfl, rfl⟩
   simp only [Qr]
   refine Qe rfl rfl (WpL.nil (Qb (Qa (Qd rfl rfl (Qd rfl rfl (QH rfl rfl rfl (fun hg1 => ?_) (fun hg1 => ?_)))))))
   ·have hg1 := of_decide_eq_true hg1
    refine Qd rfl rfl (Qf rfl rfl (QK rfl rfl (Qf rfl rfl (Qj (o2 := 0) rfl rfl rfl (Qf rfl rfl (Qo rfl rfl (by rfl) ?_))))))
    refine Qf rfl rfl (QO rfl rfl rfl (Qx rfl rfl rfl (Qe rfl rfl (WpL.nil (Qh ?_)))))
    skip
    apply RetQ.mk
    ·exact (Res.one rfl rfl)
    ·refine ⟨congrArg Value.bool ?_, rfl⟩
     have hke : k = (Qp p).length := by omega
     rw [hke, List.take_length] at hall
     exact dd ⟨fun h => ⟨by assumption, h, hall⟩, fun h => h.2.1⟩
    ·exact Ent.nil _
   ·have hg1 := of_decide_eq_false hg1
    refine Qc rfl rfl rfl (by decide) (Qc rfl rfl rfl (by decide) (Qc rfl rfl rfl (by decide) (Qc rfl rfl rfl (by decide) (Qq rfl rfl rfl (Qe rfl rfl (WpL.nil (Qh ?_)))))))
    skip
    apply RetQ.mk
    ·exact (Res.one rfl rfl)
    ·refine ⟨congrArg Value.bool ?_, rfl⟩
     have hke : k = (Qp p).length := by omega
     rw [hke, List.take_length] at hall
     exact df (fun hf => absurd hf.1 (by assumption))
    ·exact Ent.nil _


theorem chK_or (K : Int) : QZ K = 1 ∨ QZ K = 3 := by unfold QZ; split <;> simp
def WrP (K W H M : Int) (px : List Int) : Prop := PlainH K W H M ∧ (px.length : Int) = W * H ∧ ∀ p ∈ px, X1 p (QZ K) M
theorem wr_take {K W : Int} {px : List Int} {k : Nat} (h : k < px.length) : wrL K W 0 (px.take (k + 1)) = wrL K W 0 (px.take k) ++ (Yu (Qp px[k]) ++ if nlB K W k = true then [10] else []) := by
  rw [Xd px h, wrL_snoc]
  simp only [pxB, Nat.zero_add, List.length_take, show min k px.length = k by omega]
theorem nl_t {K W : Int} {k : Nat} (h : K > 1 ∨ (k : Int) % W = W - 1 ∨ (k : Int) % W % 70 = 69) {b bs : List Int} (e : bs = b) : b ++ [10] = bs ++ (if nlB K W k = true then [10] else []) := by
  rw [show nlB K W k = true from decide_eq_true h, if_pos rfl, e]
theorem nl_f {K W : Int} {k : Nat} (h1 : ¬ K > 1) (h2 : ¬ (k : Int) % W = W - 1) (h3 : ¬ (k : Int) % W % 70 = 69) {b bs : List Int} (e : bs = b) : b = bs ++ (if nlB K W k = true then [10] else []) := by
  rw [show nlB K W k = false from decide_eq_false (by omega), e]; simp
end Go.Proofs.YtggamdlpiejbiaaGreat
namespace Go.Proofs.YtggamdlpiejbiaaGreat
open Go.RowKit Go.Shelf


theorem X5 (p : Int) : ∀ x ∈ Qp p, 0 ≤ x ∧ x ≤ 65535 := by
  intro x hx
  unfold Qp at hx
  split at hx
  · simp at hx; omega
  · split at hx
    · simp at hx; omega
    · simp at hx
end Go.Proofs.YtggamdlpiejbiaaGreat
namespace Go.Proofs.YtggamdlpiejbiaaGreat
open Go.RowKit Go.Shelf
section
variable {P : Program} {n : Cx} {D : List Deferred} {ops : Array Oper} {rest : List Oper} {Q : Post} {fr : Fr} {l : List HP} {ty : Nat} {pos : String} {aft : Array Edge}

theorem strCells_u8s (s : ByteArray) : Lib.strCells s = Xn (QW s) := by simp [Lib.strCells, Xn, QW]
theorem append_str_at {w : World} {t u ty e : Nat} [ht : SlT P t e 1 1 (.int .u8 0)] (hu : P.underlying u = some .string) {v : Value} {m : Nat} {xs : List Value} (hown : w.ownsRow 0 e 1 v m xs) (s : ByteArray) (hm : m + s.size ≤ 140737488355328) :
    ∃ v' w', (Builtin.append_ #[t, u] ty #[v, .string s]).run P w = .ok v' w' ∧ w'.ownsRow 0 e 1 v' (m + s.size) (xs ++ Xn (QW s)) ∧ w.grownBy w' v.ownBlock ∧ (v'.ownBlock = v.ownBlock ∨ v'.ownBlock = some w.heap.size) := by
  obtain ⟨i, hi, hz0, hz1, hz2⟩ := info_parts ht.hi
  obtain ⟨v', w', hr, hown', hg, hnil⟩ := Lib.run_append_own_string (P := P) w 0 t u ty e i ht.hu hu hi hz0 hz1 hz2 v m xs hown s (by unfold maxLen; omega) hm (Nat.zero_le _)
  rw [strCells_u8s] at hown'
  refine ⟨v', w', hr, hown', hg, ?_⟩
  rcases hown.2 with ⟨rfl, rfl⟩ | ⟨g, cap, cur, rfl, _, hgc, hnc, _, hcs, htake⟩
  · by_cases h0 : s.size = 0
    · have := hnil.2 ⟨rfl, h0⟩
      subst this
      exact .inl rfl
    · have hr2 := run_append_nil_string (P := P) w t u ty e i (.int .u8 0) ht.hu hu hi hz0 s (by omega) (by omega) (by rw [hz2]; omega)
      rw [hr] at hr2
      injection hr2 with e1 _
      subst e1
      exact .inr rfl
  · by_cases hroom : m + s.size ≤ cap
    · have hr2 := Lib.run_append_room_string (P := P) w t u ty e i ht.hu hu hi hz1 g m cap cur hgc s hroom (by omega)
      rw [hr] at hr2
      injection hr2 with e1 _
      subst e1
      exact .inl rfl
    · have hxl : xs.length = m := by simpa using hown.1
      have hr2 := Lib.run_append_grow_string (P := P) w t u ty e i (.int .u8 0) ht.hu hu hi hz0 ⟨g, 0, none⟩ m cap xs (by rw [hz1]; simpa using hxl) (hown.cells (g := g) rfl) s (by omega) (by omega) (by rw [hz2]; exact growslice_fits (by omega) (by omega))
      rw [hr] at hr2
      injection hr2 with e1 _
      subst e1
      exact .inr rfl
/-- append(b, s...), s a text. -/
theorem s_apps {d t u e : Nat} {x y : Operand} {a : Option Addr} {c m : Nat} {xs : List Value} {s : ByteArray} {F : List HP} (hd : Nat.blt d n = true) [ht : SlT P t e 1 1 (.int .u8 0)] (hu : P.underlying u = some .string) (hx : ev fr x = some (.slice a m c)) (hy : ev fr y = some (.string s))
    (htk : Take l [QG e 1 a c m xs] F) (hm : m + s.size ≤ 140737488355328)
    (k : ∀ a' c', WpL P n D ops rest Q ((d, .slice a' (m + s.size) c') :: fr) (QG e 1 a' c' (m + s.size) (xs ++ Xn (QW s)) :: F)) : WpL P n D ops (⟨some d, .call ⟨.builtin .append, #[x, y], #[t, u]⟩, ty, pos, aft, none⟩ :: rest) Q fr l := by
  refine Xu (σ := Option Addr × Nat) hd (fun p => .slice p.1 (m + s.size) p.2) (fun p => QG e 1 p.1 p.2 (m + s.size) (xs ++ Xn (QW s)) :: F) (fun A w U hh hs' => ?_) (fun p => k p.1 p.2)
  obtain ⟨V, ⟨S, ⟨hS, hown⟩, hSV, _⟩, hfr⟩ := Out.frame (pre := [QG e 1 a c m xs]) (F := F) (htk.ent w U hs')
  obtain ⟨v', w', hr, hown', hg, hat⟩ := append_str_at (P := P) (t := t) (ty := ty) hu hown s hm
  obtain ⟨a', c', rfl⟩ := slice_of_own hown'
  have hob : ∀ b, some b = (Value.slice a m c).ownBlock → V b := by
    intro b e
    refine hSV b ((hS b).2 ?_)
    cases a with
    | none => simp [Value.ownBlock] at e
    | some ad0 => simp [Value.ownBlock] at e; exact ⟨ad0, rfl, e⟩
  refine ⟨(a', c'), w', by simp [execOp, resolve, invoke, builtin, hh.ev hx, hh.ev hy, hr], hfr [QG e 1 a' c' (m + s.size) (xs ++ Xn (QW s))] w' ⟨⟨fun b => ∃ ad, a' = some ad ∧ b = ad.block, ⟨fun _ => Iff.rfl, hown'⟩, ?_, trivial⟩, hg.os, hg.tape, hg.output, hg.size, ?_⟩⟩
  · rintro b ⟨ad', rfl, rfl⟩
    rcases hat with hat | hat
    · exact .inl (hob _ hat)
    · simp only [Value.ownBlock, Option.some.injEq] at hat
      exact .inr (Nat.le_of_eq hat.symm)
  · exact fun b hb' hnV => hg.block b hb' fun e => hnV (hob b e)

/-- A builder's types. -/
class BldF (P : Program) (T Tp Up : outParam Nat) (cc : outParam Nat) : Prop where
  tp : P.underlying Tp = some (.pointer T)
  up : P.underlying Up = some .unsafePointer
  sz : (P.info? T).map (·.size) = some 2
  lies : liesAt P P.depth T (2 / P.cellsOf T) 0 T 1 = true
theorem s_pself {d T T2 e : Nat} {x y : Operand} {p : Addr} (hd : Nat.blt d n = true) (ht : P.underlying T = some (.pointer e)) (hi : (P.info? e).isSome = true) (hx : ev fr x = some (.pointer (some p))) (hy : ev fr y = some (.pointer (some p)))
    (k : WpL P n D ops rest Q ((d, .bool false) :: fr) l) : WpL P n D ops (⟨some d, .binOp .neq T x y T2, ty, pos, aft, none⟩ :: rest) Q fr l :=
  QJ hd (fun a w _ hh _ => by
    obtain ⟨j, hj⟩ := Option.isSome_iff_exists.1 hi
    have := Lib.run_neq_ptr_same (P := P) w p ht hj
    simp [execOp, hh.ev hx, hh.ev hy, eqGuard, this]) k
theorem shape_of_blk {w : World} {g T : Nat} {cs : List Value} (h : w.heap[g]? = some (.cells cs.toArray T (0, 0))) : w.shape? g = some (T, cs.length) := by
  simp [World.shape?, h]
theorem s_tou {d Tp Up T g c2 T2 : Nat} {x : Operand} {v1 v2 : Value} (hd : Nat.blt d n = true) [hB : BldF P T Tp Up c2] (hx : ev fr x = some (.pointer (some ⟨g, 0, none⟩))) [hb : HasBlk l g [v1, v2] T2]
    (k : WpL P n D ops rest Q ((d, .pointer (some ⟨g, 0, none⟩)) :: fr) l) : WpL P n D ops (⟨some d, .convert Tp Up x, ty, pos, aft, none⟩ :: rest) Q fr l :=
  QJ hd (fun a w _ hh hs => by
    obtain ⟨j, hj, hjs⟩ := Option.map_eq_some_iff.1 hB.sz
    have := Lib.run_to_unsafe (P := P) w ⟨g, 0, none⟩ hB.tp hB.up hj (by rw [hjs]; decide) (shape_of_blk (hb.sat hs)) (by simp)
    simp [execOp, hh.ev hx, this]) k
theorem s_fromu {d Tp Up T g c2 : Nat} {x : Operand} {v1 v2 : Value} (hd : Nat.blt d n = true) [hB : BldF P T Tp Up c2] (hx : ev fr x = some (.pointer (some ⟨g, 0, none⟩))) [hb : HasBlk l g [v1, v2] T]
    (k : WpL P n D ops rest Q ((d, .pointer (some ⟨g, 0, none⟩)) :: fr) l) : WpL P n D ops (⟨some d, .convert Up Tp x, ty, pos, aft, none⟩ :: rest) Q fr l :=
  QJ hd (fun a w _ hh hs => by
    obtain ⟨j, hj, hjs⟩ := Option.map_eq_some_iff.1 hB.sz
    have := Lib.run_from_unsafe (P := P) w ⟨g, 0, none⟩ hB.up hB.tp hj (shape_of_blk (hb.sat hs)) hB.lies
    simp [execOp, hh.ev hx, this]) k
class NoEsc (P : Program) (f : Nat) : Prop where
  run : ∀ (x : Value) (w : World), (callFunc f #[x]).run P w = .ok (.value x) w
theorem s_noesc {d f : Nat} {x : Operand} {v : Value} {at_ : Array Nat} (hd : Nat.blt d n = true) [hN : NoEsc P f] (hx : ev fr x = some v)
    (k : WpL P n D ops rest Q ((d, v) :: fr) l) : WpL P n D ops (⟨some d, .call ⟨.value (.func f), #[x], at_⟩, ty, pos, aft, none⟩ :: rest) Q fr l :=
  QJ hd (fun a w _ hh hs => by
    have := hN.run v w
    have e1 : a.eval (.func f) = .func (.func f) #[] #[] := rfl
    simp [execOp, resolve, Deferred.ofValue, invoke, e1, hh.ev hx, this]) k
theorem noesc_of {f : Nat} {fn : Func} (hf : P.funcs[f]? = some fn) (hname : (fn.name == "runtime.NumGoroutine") = false) (hb : fn.body.isNone = true) (hn : Extern.findNext fn = none) (he : Extern.find fn = some Extern.AbiNoEscape.same) : NoEsc P f := ⟨fun x w => by
  rw [run_callFunc_extern hf hname hb hn he, Lib.run_noEscape]; rfl⟩
theorem s_usd {d ty' m c g : Nat} {x : Operand} {at_ : Array Nat} (hd : Nat.blt d n = true) (hx : ev fr x = some (.slice (some ⟨g, 0, none⟩) m c)) (hc : c ≠ 0)
    (k : WpL P n D ops rest Q ((d, .pointer (some ⟨g, 0, none⟩)) :: fr) l) : WpL P n D ops (⟨some d, .call ⟨.builtin .unsafeSliceData, #[x], at_⟩, ty', pos, aft, none⟩ :: rest) Q fr l :=
  QJ hd (fun a w _ hh hs => by
    have := Lib.run_unsafeSliceData_row (P := P) (w := w) at_ ty' ⟨g, 0, none⟩ m c hc
    simp [execOp, resolve, invoke, builtin, hh.ev hx, this]) k
/-- unsafe.String over a row of one's QG: the row is gone. -/
theorem s_uss {d pt it ty' e m c g m0 : Nat} {x y : Operand} {xs : List Int} {F : List HP} (hd : Nat.blt d n = true) (hp : P.underlying pt = some (.pointer e)) (hc1 : P.cellsOf e = 1) (hx : ev fr x = some (.pointer (some ⟨g, 0, none⟩))) (hy : ev fr y = some (.int .i64 (m : Int))) (htk : Take l [QG e 1 (some ⟨g, 0, none⟩) c m0 (Xn xs)] F)
    (hm : xs.length = m) (h0 : 0 < m) (h63 : m ≤ 140737488355328) (hb : ∀ x ∈ xs, 0 ≤ x ∧ x ≤ 255) (k : WpL P n D ops rest Q ((d, .string (strOfNums xs)) :: fr) F) :
    WpL P n D ops (⟨some d, .call ⟨.builtin .unsafeString, #[x, y], #[pt, it]⟩, ty', pos, aft, none⟩ :: rest) Q fr l := by
  refine Xu (σ := Unit) hd (fun _ => .string (strOfNums xs)) (fun _ => F) (fun A w U hh hs' => ⟨(), w.freeze ⟨g, 0, none⟩ m, ?_, ?_⟩) (fun _ => k)
  · obtain ⟨S, hpp, _⟩ := htk.ent' w U hs'
    rcases XS hpp with ⟨e1, _⟩ | ⟨g', cur, e1, hg, hmc, hcs, h4, h5⟩
    · cases e1
    · injection e1 with e1
      injection e1 with e1 _ _
      subst e1
      obtain ⟨l8, hl8⟩ : ∃ l8 : List UInt8, l8 = xs.map fun x => x.toNat.toUInt8 := ⟨_, rfl⟩
      have hll : l8.length = m := by rw [hl8, List.length_map, hm]
      have h5' : xs.length = m0 := by rw [Q1] at h5; omega
      have hrun := Lib.run_unsafeString_row (P := P) (w := w) pt it ty' e hp hc1 g cur.size (by simp [World.shape?, hg]) l8 (fun e => by rw [e] at hll; simp at hll; omega) (by omega) (by omega) (fun j x hj => by
        have hjl : j < xs.length := by
          have := (List.getElem?_eq_some_iff.1 hj).1
          omega
        have hx2 : x = (xs[j]'hjl).toNat.toUInt8 := by
          rw [hl8, List.getElem?_map, List.getElem?_eq_getElem hjl] at hj
          simpa using hj.symm
        have hbx := hb _ (List.getElem_mem hjl)
        rw [YE hpp rfl j _ (YQ xs hjl), hx2]
        simp
        omega)
      rw [hll] at hrun
      have e2 : (⟨l8.toArray⟩ : ByteArray) = strOfNums xs := by
        rw [hl8]; simp [strOfNums]
      rw [e2] at hrun
      simp [execOp, resolve, invoke, builtin, hh.ev hx, hh.ev hy, hrun]
  · obtain ⟨V, ⟨S, ⟨hS, hown⟩, hSV, _⟩, hfr⟩ := Out.frame (pre := [QG e 1 (some ⟨g, 0, none⟩) c m0 (Xn xs)]) (F := F) (htk.ent w U hs')
    have hh2 : ∀ b, b ≠ g → (w.freeze ⟨g, 0, none⟩ m).heap[b]? = w.heap[b]? := by
      intro b hb
      unfold World.freeze
      split
      · rfl
      · simp [Array.getElem?_modify, Ne.symm hb]
    have hsz : (w.freeze ⟨g, 0, none⟩ m).heap.size = w.heap.size := by unfold World.freeze; split <;> simp
    have := hfr [] (w.freeze ⟨g, 0, none⟩ m) ⟨trivial, by unfold World.freeze; split <;> rfl, by unfold World.freeze; split <;> rfl, by unfold World.freeze; split <;> rfl, by rw [hsz]; exact Nat.le_refl _, fun b hb hn => hh2 b fun e => hn (hSV b ((hS b).2 ⟨_, rfl, e⟩))⟩
    simpa using this
end
end Go.Proofs.YtggamdlpiejbiaaGreat
namespace Go.Proofs.YtggamdlpiejbiaaGreat
open Go.RowKit Go.Shelf


theorem u8s_app (xs ys : List Int) : Xn xs ++ Xn ys = Xn (xs ++ ys) := by simp [Xn]
instance : BldF Tryz.prog 207 205 260 2 := ⟨Tryz.underlying205, Tryz.underlying260, by kernel_rfl, by kernel_rfl⟩
instance : NoEsc Tryz.prog 198 := noesc_of Tryz.func198 (by kernel_rfl) (by kernel_rfl) (by kernel_rfl) (by kernel_rfl)

theorem copyCheck_a (g : Nat) (v1 : Value) : Fn Tryz.prog 179 #[.pointer (some ⟨g, 0, none⟩)] [QB g [.pointer none, v1] 207] (fun _ l => l = [QB g [.pointer (some ⟨g, 0, none⟩), v1] 207]) := by
 refine Qk (vs := [.pointer (some ⟨g, 0, none⟩)]) Tryz.func179 rfl Tryz.ntmps179 rfl ?_
 refine Qb (Qa (Qd rfl rfl (Qs rfl rfl (Qj (o2 := 0) rfl rfl rfl (Qo rfl rfl (by rfl) ?_)))))
 refine s_peq rfl Tryz.underlying205 rfl rfl (WpL.nil (Wp.condBT rfl (by rfl) ?_))
 refine Qa (Qd rfl rfl (Qd rfl rfl (s_tou rfl rfl (s_noesc rfl rfl (s_fromu rfl rfl (Qs rfl rfl (Qj (o2 := 0) rfl rfl rfl (Q0 rfl rfl rfl (WpL.nil ?_)))))))))
 apply Yr
 ·exact (XQ rfl)
 ·exact rfl
 ·exact Ent.refl _

theorem copyCheck_b (g : Nat) (v1 : Value) : Fn Tryz.prog 179 #[.pointer (some ⟨g, 0, none⟩)] [QB g [.pointer (some ⟨g, 0, none⟩), v1] 207] (fun _ l => l = [QB g [.pointer (some ⟨g, 0, none⟩), v1] 207]) := by
 refine Qk (vs := [.pointer (some ⟨g, 0, none⟩)]) Tryz.func179 rfl Tryz.ntmps179 rfl ?_
 refine Qb (Qa (Qd rfl rfl (Qs rfl rfl (Qj (o2 := 0) rfl rfl rfl (Qo rfl rfl (by rfl) ?_)))))
 refine s_peq rfl Tryz.underlying205 rfl rfl (WpL.nil (Wp.condBF rfl (by rfl) ?_))
 refine Qb (Qa (Qd rfl rfl (Qs rfl rfl (Qj (o2 := 0) rfl rfl rfl (Qo rfl rfl (by rfl) ?_)))))
 refine Qd rfl rfl (s_pself rfl Tryz.underlying205 (by kernel_rfl) rfl rfl ?_)
 refine WpL.nil (QV rfl (Wp.skip ?_))
 apply Yr
 ·exact (XQ rfl)
 ·exact rfl
 ·exact Ent.refl _

theorem copyCheck_spec (g : Nat) (p : Option Addr) (v1 : Value) (hp : p = none ∨ p = some ⟨g, 0, none⟩) : Fn Tryz.prog 179 #[.pointer (some ⟨g, 0, none⟩)] [QB g [.pointer p, v1] 207] (fun _ l => l = [QB g [.pointer (some ⟨g, 0, none⟩), v1] 207]) := by
  rcases hp with rfl | rfl
  · exact copyCheck_a g v1
  · exact copyCheck_b g v1
theorem Fn.ownSome {P : Program} {f : Nat} {args : Array Value} {pre F : List HP} {R : Value → List HP → Prop} {T s c m : Nat} {a : Option Addr} {xs : List Value} (ht : Take1 pre (QG T s a c m xs) F) (hne : xs ≠ [])
    (h : ∀ g, a = some ⟨g, 0, none⟩ → m ≤ c → Fn P f args pre R) : Fn P f args pre R := by
  intro w U hs
  obtain ⟨S, hp, _⟩ := ht.ent w U hs
  rcases XS hp with ⟨_, _, _, e⟩ | ⟨g, cur, e, _, hmc, _⟩
  · exact absurd e hne
  · exact h g e hmc w U hs

theorem Y9 (g : Nat) (p a : Option Addr) (c : Nat) (xs : List Int) (hp : p = none ∨ p = some ⟨g, 0, none⟩) (s : ByteArray) (hs : xs.length + s.size ≤ 140737488355328) : Fn Tryz.prog 138 #[.pointer (some ⟨g, 0, none⟩), .string s] [QB g [.pointer p, .slice a (xs).length c] 207, QG 5 1 a c (xs).length (Xn (xs))] (fun _ l => ∃ a' c', l = [QB g [.pointer (some ⟨g, 0, none⟩), .slice a' (xs ++ QW s).length c'] 207, QG 5 1 a' c' (xs ++ QW s).length (Xn (xs ++ QW s))]) := by
 refine Qk (vs := [.pointer (some ⟨g, 0, none⟩), .string s]) Tryz.func138 rfl Tryz.ntmps138 rfl ?_
 refine Qb (Qa (Qe rfl rfl (Qe rfl rfl (WpL.nil (Qb (Qa (Qd rfl rfl (Qg rfl rfl (by repeat' constructor) (copyCheck_spec _ _ _ hp) ?_))))))))
 rintro _ _ rfl
 simp only [Qr]
 refine WpL.nil (Qb (Qa (Qd rfl rfl (Qd rfl rfl (Qs rfl rfl (Qj (o2 := 1) rfl rfl rfl (Qo rfl rfl (by rfl) ?_)))))))
 refine Qd rfl rfl (s_apps rfl Tryz.underlying9 rfl rfl (by repeat' constructor) (by omega) ?_)
 intro a14 c14
 rw [u8s_app, show xs.length + s.size = (xs ++ QW s).length from by rw [List.length_append, XB]]
 refine Qs rfl rfl (Qj (o2 := 1) rfl rfl rfl (Q0 rfl rfl rfl (WpL.nil (Qb (Qa (Qd rfl rfl (s_lens rfl Tryz.underlying9 rfl (Qe rfl rfl (Qe rfl rfl (WpL.nil (Qh ?_)))))))))))
 apply RetQ.mk
 ·exact (QF rfl rfl rfl)
 ·exact ⟨a14, c14, rfl⟩
 ·exact Take.ent' (by repeat' constructor)

theorem BWriteByte_spec (g : Nat) (p a : Option Addr) (c : Nat) (xs : List Int) (hp : p = none ∨ p = some ⟨g, 0, none⟩) (b : Int) (hs : xs.length + 1 ≤ 140737488355328) : Fn Tryz.prog 140 #[.pointer (some ⟨g, 0, none⟩), .int .u8 b] [QB g [.pointer p, .slice a (xs).length c] 207, QG 5 1 a c (xs).length (Xn (xs))] (fun _ l => ∃ a' c', l = [QB g [.pointer (some ⟨g, 0, none⟩), .slice a' (xs ++ [b]).length c'] 207, QG 5 1 a' c' (xs ++ [b]).length (Xn (xs ++ [b]))]) := by
 refine Qk (vs := [.pointer (some ⟨g, 0, none⟩), .int .u8 b]) Tryz.func140 rfl Tryz.ntmps140 rfl ?_
 refine Qb (Qa (Qe rfl rfl (WpL.nil (Qb (Qa (Qd rfl rfl (Qg rfl rfl (by repeat' constructor) (copyCheck_spec _ _ _ hp) ?_)))))))
 rintro _ _ rfl
 simp only [Qr]
 refine WpL.nil (Qb (Qa (Qd rfl rfl (Qd rfl rfl (Qs rfl rfl (Qj (o2 := 1) rfl rfl rfl (Qo rfl rfl (by rfl) ?_)))))))
 refine Qd rfl rfl ?_
 refine Y4 rfl rfl rfl rfl ?_
 intro g1
 refine X9 rfl rfl rfl (by repeat' constructor) (by rfl) (by rfl) (by rfl) (by rfl) (by omega) (by omega) ?_
 intro a14 c14
 rw [u8s_snoc, show xs.length + 1 = (xs ++ [b]).length from by simp]
 refine Qs rfl rfl (Qj (o2 := 1) rfl rfl rfl (Q0 rfl rfl rfl (WpL.nil (Qb (Qa (Qe rfl rfl (WpL.nil (Qh ?_))))))))
 apply RetQ.mk
 ·exact (Res.one rfl rfl)
 ·exact ⟨a14, c14, rfl⟩
 ·exact Take.ent' (by repeat' constructor)

theorem BString_a (g g' c : Nat) (p : Option Addr) (xs : List Int) (h0 : 0 < xs.length) (hc : xs.length ≤ c) (h1 : xs.length ≤ 140737488355328) (hb : ∀ x ∈ xs, 0 ≤ x ∧ x ≤ 255) : Fn Tryz.prog 141 #[.pointer (some ⟨g, 0, none⟩)] [QB g [.pointer p, .slice (some ⟨g', 0, none⟩) (xs).length c] 207, QG 5 1 (some ⟨g', 0, none⟩) c (xs).length (Xn (xs))] (fun v l => v = .string (strOfNums xs) ∧ l = []) := by
 refine Qk (vs := [.pointer (some ⟨g, 0, none⟩)]) Tryz.func141 rfl Tryz.ntmps141 rfl ?_
 refine Qb (Qa (Qe rfl rfl (WpL.nil (Qb ?_))))
 apply Xe (fB := []) mixed [(10, false)] (by kernel_rfl)
 apply Q9 [⟨0, 3, _, [], false⟩, ⟨1, 4, _, [0], false⟩, ⟨2, 5, _, [1], false⟩, ⟨3, 6, _, [2], false⟩, ⟨4, 7, _, [3], false⟩, ⟨5, 8, _, [], false⟩, ⟨6, 9, _, [5], false⟩, ⟨7, 10, _, [6], false⟩, ⟨8, 11, _, [7], false⟩, ⟨9, 12, _, [8], false⟩] [] [0, 1, 2, 3, 4, 5, 6, 7, 8, 9] [2] (.inr rfl) rfl rfl rfl (by kernel_rfl) rfl rfl rfl
 ·refine AllF.cons rfl rfl rfl rfl ?_ ?_
  ·exact Qd rfl rfl (Ql rfl)
  refine AllF.cons rfl rfl rfl rfl ?_ ?_
  ·exact Qs rfl rfl (Ql rfl)
  refine AllF.cons rfl rfl rfl rfl ?_ ?_
  ·exact Qj (o2 := 1) rfl rfl rfl (Ql rfl)
  refine AllF.cons rfl rfl rfl rfl ?_ ?_
  ·refine Qo rfl rfl (by rfl) ?_
   exact Ql rfl
  refine AllF.cons rfl rfl rfl rfl ?_ ?_
  ·refine s_usd rfl rfl (by omega) ?_
   exact WpL.nil ⟨rfl, rfl, rfl, by exact Ent.refl _⟩
  refine AllF.cons rfl rfl rfl rfl ?_ ?_
  ·exact Qd rfl rfl (Ql rfl)
  refine AllF.cons rfl rfl rfl rfl ?_ ?_
  ·exact Qs rfl rfl (Ql rfl)
  refine AllF.cons rfl rfl rfl rfl ?_ ?_
  ·exact Qj (o2 := 1) rfl rfl rfl (Ql rfl)
  refine AllF.cons rfl rfl rfl rfl ?_ ?_
  ·refine Qo rfl rfl (by rfl) ?_
   exact Ql rfl
  refine AllF.cons rfl rfl rfl rfl ?_ ?_
  ·exact QK rfl rfl (WpL.nil ⟨rfl, rfl, rfl, by exact Ent.refl _⟩)
  exact AllF.nil
 ·refine s_uss rfl Tryz.underlying245 (by kernel_rfl) rfl rfl (by repeat' constructor) rfl h0 h1 hb ?_
  refine WpL.nil ⟨rfl, rfl, ?_⟩
  apply GoR.nil [⟨11, 2, _, [0, 1, 2, 3, 4, 5, 6, 7, 8, 9, 10], false⟩] (.inr rfl) rfl rfl
  ·refine AllF.cons rfl rfl rfl rfl ?_ ?_
   ·exact Qe rfl rfl (Ql rfl)
   exact AllF.nil
  ·refine Qh ?_
   apply RetQ.mk
   ·exact (Res.one rfl rfl)
   ·exact ⟨rfl, rfl⟩
   ·exact Ent.nil _

theorem BString_spec (g c : Nat) (p a : Option Addr) (xs : List Int) (h0 : 0 < xs.length) (h1 : xs.length ≤ 140737488355328) (hb : ∀ x ∈ xs, 0 ≤ x ∧ x ≤ 255) : Fn Tryz.prog 141 #[.pointer (some ⟨g, 0, none⟩)] [QB g [.pointer p, .slice a xs.length c] 207, QG 5 1 a c xs.length (Xn xs)] (fun v l => v = .string (strOfNums xs) ∧ l = []) := by
  refine Fn.ownSome (Take1.there Take1.here) (fun e => by rw [← List.length_eq_zero_iff, Q1] at e; omega) fun g' e hmc => ?_
  subst e
  exact BString_a g g' c p xs h0 hmc h1 hb

end Go.Proofs.YtggamdlpiejbiaaGreat
namespace Go.Proofs.YtggamdlpiejbiaaGreat
open Go.RowKit Go.Shelf


def strs (xs : List ByteArray) : List Value := xs.map Value.string
theorem strs_len (xs : List ByteArray) : (strs xs).length = xs.length := List.length_map _
theorem strs_at (xs : List ByteArray) {k : Nat} (h : k < xs.length) : (strs xs)[k]? = some (.string (xs[k]'h)) := by simp [strs, List.getElem?_map, List.getElem?_eq_getElem h]
theorem strs_snoc (xs : List ByteArray) (x : ByteArray) : strs xs ++ [.string x] = strs (xs ++ [x]) := by simp [strs]
theorem inter_map {α β : Type} (f : α → β) (sep : List α) (xs : List (List α)) : (sep.intercalate xs).map f = (sep.map f).intercalate (xs.map (·.map f)) := by
  simp only [List.intercalate]
  induction xs with
  | nil => rfl
  | cons x xs ih =>
    cases xs with
    | nil => simp
    | cons y ys => simp only [List.map_cons, List.intersperse_cons_cons, List.flatten_cons, List.map_append] at ih ⊢; rw [ih]
theorem Join_spec (a : Option Addr) (c : Nat) (xs : List ByteArray) (sep : ByteArray) (h0 : 0 < xs.length) (h1 : xs.length ≤ 140737488355328) (h2 : ((QW sep).intercalate (xs.map QW)).length ≤ 140737488355328) :
    Fn Tryz.prog 142 #[.slice a xs.length c, .string sep] [QG 9 1 a c xs.length (strs xs)] (fun v l => ∃ s, v = .string s ∧ QW s = (QW sep).intercalate (xs.map QW) ∧ l = [QG 9 1 a c xs.length (strs xs)]) := by
  have e1 : (Lib.join (xs.map (·.data.toList)) sep.data.toList).map (fun b => (b.toNat : Int)) = (QW sep).intercalate (xs.map QW) := by
    unfold Lib.join QW
    rw [inter_map, List.map_map]
    rfl
  refine Fn.ownSome Take1.here (fun e => by rw [← List.length_eq_zero_iff, strs_len] at e; omega) fun g e hmc => ?_
  subst e
  intro w U hs
  have hs2 := hs
  obtain ⟨S, hp, _⟩ := hs2
  have hlt : g < w.heap.size := by
    rcases XS hp with ⟨e, _⟩ | ⟨g', cur, e, hg, _⟩
    · cases e
    · injection e with e; injection e with e _ _; subst e; exact (Array.getElem?_eq_some_iff.1 hg).1
  have hj := Tryz.strings_Join g 0 c xs sep w (fun j x hx => by
    have hjl := (List.getElem?_eq_some_iff.1 hx).1
    have hxe := (List.getElem?_eq_some_iff.1 hx).2
    have := YE hp rfl j _ (strs_at xs hjl)
    rw [hxe] at this
    simpa [Zj] using this) hlt h1 hmc (by rw [← e1, List.length_map] at h2; exact h2)
  refine hj.mono ?_
  rintro e w' ⟨rfl, hb⟩
  exact ⟨_, _, rfl, ⟨_, rfl, by rw [← e1]; simp [QW], rfl⟩, Out.chg hs hb⟩
theorem joinB_inter : ∀ (xs : List Int), Yu xs = [32].intercalate (xs.map fun x => Ys x.toNat)
  | [] => rfl
  | [x] => by simp [Yu, List.intercalate]
  | x :: y :: xs => by
    rw [Yu, joinB_inter (y :: xs)]
    simp [List.intercalate]
theorem digs_len5 {x : Int} (h : x ≤ 65535) : 1 ≤ (Ys x.toNat).length ∧ (Ys x.toNat).length ≤ 5 := by
  rw [lowD_digs, List.length_reverse, List.length_map]
  obtain ⟨t, ht⟩ := lowD_head 10 x.toNat
  have := lowD_len20 (b := 10) (n := x.toNat) (by omega) 4 (by omega)
  rw [ht] at this ⊢
  simp only [List.length_cons] at this ⊢
  omega
theorem joinB_len : ∀ (xs : List Int), (∀ x ∈ xs, x ≤ 65535) → (Yu xs).length ≤ 6 * xs.length ∧ (xs ≠ [] → 1 ≤ (Yu xs).length)
  | [], _ => by simp [Yu]
  | [x], h => by
    have := digs_len5 (h x (by simp))
    simp only [Yu, List.length_cons, List.length_nil]; omega
  | x :: y :: xs, h => by
    have h1 := digs_len5 (h x (by simp))
    have h2 := joinB_len (y :: xs) fun z hz => h z (by simp [hz])
    simp only [Yu, List.length_append, List.length_cons] at h2 ⊢; omega
theorem joinB_byte : ∀ (xs : List Int), ∀ b ∈ Yu xs, 0 ≤ b ∧ b ≤ 255
  | [], b, hb => by simp [Yu] at hb
  | [x], b, hb => by have := digs_bd _ b hb; omega
  | x :: y :: xs, b, hb => by
    rw [Yu] at hb
    rcases List.mem_append.1 hb with hb | hb
    · have := digs_bd _ b hb; omega
    · rcases List.mem_cons.1 hb with hb | hb
      · omega
      · exact joinB_byte (y :: xs) b hb
theorem wrL_len {K W : Int} : ∀ (l : List Int) (i : Nat), (wrL K W i l).length ≤ 20 * l.length
  | [], i => by simp [wrL]
  | p :: l, i => by
    have h1 := wrL_len (K := K) (W := W) l (i + 1)
    have h2 := (joinB_len (Qp p) fun x hx => (X5 p x hx).2).1
    have h3 := Xs p
    simp only [wrL, pxB, List.length_append, List.length_cons]
    split <;> simp <;> omega
theorem wrL_byte {K W : Int} : ∀ (l : List Int) (i : Nat), ∀ b ∈ wrL K W i l, 0 ≤ b ∧ b ≤ 255
  | [], i, b, hb => by simp [wrL] at hb
  | p :: l, i, b, hb => by
    rw [wrL, pxB] at hb
    rcases List.mem_append.1 hb with hb | hb
    · rcases List.mem_append.1 hb with hb | hb
      · exact joinB_byte _ b hb
      · split at hb
        · simp at hb; omega
        · simp at hb
    · exact wrL_byte l (i + 1) b hb
theorem wrL_pos {K W : Int} {l : List Int} (h : l ≠ []) (hu : ∀ p ∈ l, Qp p ≠ []) (i : Nat) : 0 < (wrL K W i l).length := by
  cases l with
  | nil => exact absurd rfl h
  | cons p l =>
    have := (joinB_len (Qp p) fun x hx => (X5 p x hx).2).2 (hu p (by simp))
    simp only [wrL, pxB, List.length_append]; omega
theorem digs_str (n : Nat) : QW (strOfNums (Ys n)) = Ys n := Zr fun x hx => by have := digs_bd n x hx; omega
structure WbX where
  (k : Nat) (bs : List Int) (p a : Option Addr) (c : Nat)
theorem mod_row {q r W : Int} (h0 : 0 ≤ r) (h1 : r < W) : (q * W + r) % W = r := by
  rw [Int.add_comm, Int.add_mul_emod_self_right]
  exact Int.emod_eq_of_lt h0 h1

theorem Odd_spec (g : Nat) (p ch mx : Int) (h0 : 0 ≤ p) (h1 : p < 18446744073709551616) : Fn Tryz.prog 137 #[.int .u64 p, .pointer (some ⟨g, 0, none⟩)] [QB g [.int .i64 ch, .int .i64 mx] 48] (fun v l => v = .bool (!decide (X1 p ch mx)) ∧ l = [QB g [.int .i64 ch, .int .i64 mx] 48]) := by
 refine Qk (vs := [.int .u64 p, .pointer (some ⟨g, 0, none⟩)]) Tryz.func137 rfl Tryz.ntmps137 rfl ?_
 refine Qb (Qa (Qe rfl rfl (WpL.nil (Qb (Qa (Qd rfl rfl ?_))))))
 refine Qz (vs := [_, _]) rfl rfl rfl (by rfl) ?_
 refine Qg rfl rfl (by repeat' constructor) (Fits_spec _ _ _ h0 h1) ?_
 rintro _ _ ⟨rfl, rfl⟩
 simp only [Qr]
 refine YM rfl rfl (Qe rfl rfl (WpL.nil (Qh ?_)))
 apply RetQ.mk
 ·exact (Res.one rfl rfl)
 ·exact ⟨rfl, rfl⟩
 ·exact Ent.refl _

theorem IndexOdd_spec (A0 : HP) (a0 : Option Addr) (c0 : Nat) (px : List Int) (hA : RdsL [A0] a0 (Q5 px)) (hr : ∀ p ∈ px, 0 ≤ p ∧ p < 18446744073709551616) (hl : px.length ≤ 140737488355328) (g : Nat) (ch mx : Int) : Fn Tryz.prog 173 #[.slice a0 px.length c0, .func (.func 137) #[] #[.pointer (some ⟨g, 0, none⟩)]] [QB g [.int .i64 ch, .int .i64 mx] 48, A0] (fun v l => ∃ r : Int, v = .int .i64 r ∧ (0 ≤ r ↔ ¬ ∀ p ∈ px, X1 p ch mx) ∧ l = [QB g [.int .i64 ch, .int .i64 mx] 48, A0]) := by
 refine Qk (vs := [.slice a0 px.length c0, .func (.func 137) #[] #[.pointer (some ⟨g, 0, none⟩)]]) Tryz.func173 rfl Tryz.ntmps173 rfl ?_
 refine Qb (Qa (Qe rfl rfl (WpL.nil (Qb (Qb (Qa (Qd rfl rfl (QK rfl rfl (Qd rfl rfl (WpL.nil (Wp.block ?_)))))))))))
 refine Wp.loopD (σ := Nat) (fun k => k ≤ px.length ∧ ∀ p ∈ px.take k, X1 p ch mx) [4, 5, 8, 9, 10, 11, 12, 13, 14, 15, 16, 17, 18] (fun k => [(8, .int .i64 (k : Int))]) (fun k => [QB g [.int .i64 ch, .int .i64 mx] 48, A0]) (fun k => px.length - k) 0 ?_ (by repeat (first | exact FrLe.nil | refine FrLe.cons rfl ?_)) ?_ ?_
 ·exact ⟨Nat.zero_le _, by simp⟩
 ·exact Ent.refl _
 ·rintro k ⟨hk, hf⟩
  refine Qb (Qa (Q6 rfl rfl rfl (WpL.nil (Qb (Qm rfl (fun h1 => ?_) (fun h1 => ?_))))))
  ·have hlt : k < px.length := by omega
   have hpb := hr _ (List.getElem_mem hlt)
   refine Wp.skip (Qb (Wp.block ?_))
   refine Qb (Qa (Qd rfl rfl (Qe rfl rfl (WpL.nil (Qb (Qa (Qd rfl rfl (Qd rfl rfl (Qd rfl rfl (Q3 k rfl rfl rfl hA (by exact Take.ent' (by repeat' constructor)) rfl (by omega) (by rw [Xt]; omega) ?_))))))))))
   refine Xb rfl rfl hA (by exact Take.ent' (by repeat' constructor)) (Yg px hlt) ?_
   refine XU (u := []) (c := [.pointer (some ⟨g, 0, none⟩)]) rfl rfl rfl rfl (by repeat' constructor) (Odd_spec g _ ch mx hpb.1 hpb.2) ?_
   rintro _ _ ⟨rfl, rfl⟩
   simp only [Qr]
   refine WpL.nil (XC rfl (fun h2 => ?_) (fun h2 => ?_))
   ·refine Qb (Qa (Qd rfl rfl (Qe rfl rfl (WpL.nil (Qh ?_)))))
    apply RetQ.mk
    ·exact (Res.one rfl rfl)
    ·exact ⟨_, rfl, ⟨fun _ hall => (by have := hall _ (List.getElem_mem hlt); rw [decide_eq_true this] at h2; cases h2), fun _ => (by omega)⟩, rfl⟩
    ·exact Ent.refl _
   ·refine Wp.skip (Qa (QE rfl rfl rfl (Qt (by omega) (by omega)) ?_))
    refine Qd rfl rfl (WpL.nil (Qy (k + 1) ?_ ?_ (by ((repeat (first | exact Top.refl | refine Top.push rfl ?_)); done)) (by repeat (first | exact FrLe.nil | refine FrLe.cons rfl ?_)) ?_))
    ·refine ⟨by omega, fun p hp => ?_⟩
     rw [Xd px hlt] at hp
     rcases List.mem_append.1 hp with hp | hp
     ·exact hf p hp
     ·have := List.mem_singleton.1 hp; subst this; simpa using h2
    ·omega
    ·exact Ent.refl _
  ·refine QL (Qb (Qa (Qe rfl rfl (WpL.nil (Qh ?_)))))
   apply RetQ.mk
   ·exact (Res.one rfl rfl)
   ·have hke : k = px.length := by omega
    rw [hke, List.take_length] at hf
    exact ⟨_, rfl, ⟨fun h => by omega, fun h => absurd hf h⟩, rfl⟩
   ·exact Ent.refl _

theorem ContainsOdd_spec (A0 : HP) (a0 : Option Addr) (c0 : Nat) (px : List Int) (hA : RdsL [A0] a0 (Q5 px)) (hr : ∀ p ∈ px, 0 ≤ p ∧ p < 18446744073709551616) (hl : px.length ≤ 140737488355328) (g : Nat) (ch mx : Int) : Fn Tryz.prog 130 #[.slice a0 px.length c0, .func (.func 137) #[] #[.pointer (some ⟨g, 0, none⟩)]] [QB g [.int .i64 ch, .int .i64 mx] 48, A0] (fun v l => v = .bool (decide (¬ ∀ p ∈ px, X1 p ch mx)) ∧ l = [QB g [.int .i64 ch, .int .i64 mx] 48, A0]) := by
 refine Qk (vs := [.slice a0 px.length c0, .func (.func 137) #[] #[.pointer (some ⟨g, 0, none⟩)]]) Tryz.func130 rfl Tryz.ntmps130 rfl ?_
 refine Qb (Qa (Qe rfl rfl (WpL.nil (Qb (Qa (Qd rfl rfl (Qd rfl rfl (Qg rfl rfl (by repeat' constructor) (IndexOdd_spec A0 a0 c0 px hA hr hl _ _ _) ?_))))))))
 rintro _ _ ⟨ri, rfl, hri, rfl⟩
 simp only [Qr]
 refine Zo rfl rfl rfl (Qe rfl rfl (WpL.nil (Qh ?_)))
 apply RetQ.mk
 ·exact (Res.one rfl rfl)
 ·exact ⟨congrArg Value.bool (by rw [decide_eq_decide]; exact hri), rfl⟩
 ·exact Ent.refl _

end Go.Proofs.YtggamdlpiejbiaaGreat
namespace Go.Proofs.YtggamdlpiejbiaaGreat
open Go.RowKit Go.Shelf


structure WoX where
  (ws : List ByteArray) (a : Option Addr) (c : Nat)
def wsOf (p : Int) : List ByteArray := (Qp p).map fun x => strOfNums (Ys x.toNat)
theorem wsOf_bytes (p : Int) : (wsOf p).map QW = (Qp p).map fun x => Ys x.toNat := by
  simp only [wsOf, List.map_map]
  exact List.map_congr_left fun x _ => digs_str _
theorem joinB_one {xs : List Int} (h : xs.length = 1) (h0 : 0 < xs.length) : Yu xs = Ys (xs[0]).toNat := by
  match xs, h with
  | [x], _ => rfl
theorem pxs_sub (px : List Int) (L H : Nat) : ((Q5 px).drop (L * 1)).take ((H - L) * 1) = Q5 ((px.drop L).take (H - L)) := by simp [Q5, List.map_take, List.map_drop]
theorem sub_at {px : List Int} {L n j : Nat} (hj : j < ((px.drop L).take n).length) (h : L + j < px.length) : ((px.drop L).take n)[j] = px[L + j] := by simp

set_option maxHeartbeats 4000000 in
theorem Write_ok (A0 : HP) (a0 : Option Addr) (c0 : Nat) (px : List Int) (hA : RdsL [A0] a0 (Q5 px)) (hr : ∀ p ∈ px, 0 ≤ p ∧ p < 18446744073709551616) (_hl : px.length ≤ 300000000) (hc : px.length ≤ c0) (K M : Int) (Wn Hn : Nat) (hP : PlainH K (Wn : Int) (Hn : Int) M) : Fn Tryz.prog 89 #[.slice a0 px.length c0, .agg #[.int .i64 K, .int .i64 (Wn : Int), .int .i64 (Hn : Int), .int .i64 M]] [A0] (fun v l => ∃ s e, v = .tuple #[.string s, .int .i64 e] ∧ ((WrP K (Wn : Int) (Hn : Int) M px ∧ e = 0 ∧ QW s = wrL K (Wn : Int) 0 px ∧ s.size ≤ px.length * 20) ∨ (¬ WrP K (Wn : Int) (Hn : Int) M px ∧ e = 1 ∧ s = ⟨#[]⟩)) ∧ l = [A0]) := by
 have hP2 := hP.1
 unfold X6 at hP2
 have hK4 := hP.2
 have hWH : Wn * Hn ≤ 4096 * 65536 := Nat.mul_le_mul (by omega) (by omega)
 have hch := chK_or K
 have hWHi : (Wn : Int) * (Hn : Int) = ((Wn * Hn : Nat) : Int) := by push_cast; rfl
 refine Qk (vs := [.slice a0 px.length c0, .agg #[.int .i64 K, .int .i64 (Wn : Int), .int .i64 (Hn : Int), .int .i64 M]]) Tryz.func89 rfl Tryz.ntmps89 rfl (Qb (Qa (QP rfl rfl rfl ?_)))
 intro g1
 refine Qe rfl rfl (Qe rfl rfl (WpL.nil (Qb (Qa ?_))))
 refine Qz (vs := [_, _, _, _]) rfl rfl rfl (by rfl) ?_
 refine Qg rfl rfl (by repeat' constructor) (Xo _ _ _ _ (by omega)) ?_
 rintro _ _ ⟨rfl, rfl⟩
 simp only [Qr]
 rw [show (if K % 3 = 0 then (3 : Int) else 1) = QZ K from rfl]
 refine XK rfl ?_
 intro gF
 refine QY rfl rfl rfl (by rfl) rfl ?_
 refine WpL.nil (Qb (Qa (s_mkf rfl (fun a hh => XO hh _ _ rfl) ?_)))
 refine Qe rfl rfl (WpL.nil (Qb (Qb (Qa ?_))))
 refine Qz (vs := [_, _, _, _]) rfl rfl rfl (by rfl) ?_
 refine Qg rfl rfl (by repeat' constructor) (New_spec _ _ _ _) ?_
 intro v0 m0 hN0
 rcases hN0 with ⟨hP', gR, rfl, rfl⟩ | ⟨hP', rfl, rfl⟩
 ·simp only [Qr]
  refine Qd rfl rfl (QC rfl rfl rfl (QC rfl rfl rfl (Qe rfl rfl (Qe rfl rfl (WpL.nil (Qb (Qa (Qd rfl rfl (Xj rfl rfl rfl (Qd rfl rfl (Qu (dj := 30) rfl (by decide) ?_)))))))))))
  refine Qf rfl rfl (Qd rfl rfl (Qf rfl rfl (QK rfl rfl (Qf rfl rfl (Qj (o2 := 1) rfl rfl rfl (Qf rfl rfl (Qo rfl rfl (by rfl) ?_)))))))
  refine Qf rfl rfl (Qj (o2 := 2) rfl rfl rfl (Qf rfl rfl (Qo rfl rfl (by rfl) ?_)))
  refine Qf rfl rfl (Xz rfl rfl rfl (Qt (by omega) (by omega)) ?_)
  rw [hWHi]
  refine Qf rfl rfl (Xj rfl rfl rfl (Qq rfl rfl rfl (Qd rfl rfl (QH rfl rfl rfl (fun hg2 => ?_) (fun hg2 => ?_)))))
  ·have hg2 := of_decide_eq_false hg2
   refine Qd rfl rfl (Qf rfl rfl (Qd rfl rfl (Qf rfl rfl (Qg rfl rfl (by repeat' constructor) (ContainsOdd_spec A0 a0 c0 px hA hr (by omega) gF (QZ K) M) ?_))))
   rintro _ _ ⟨rfl, rfl⟩
   simp only [Qr]
   refine Qq rfl rfl rfl (WpL.nil (Qm rfl (fun hc2 => ?_) (fun hc2 => ?_)))
   ·refine Qb (Qa (Qe rfl rfl (Qe rfl rfl (WpL.nil (Qh ?_)))))
    apply RetQ.mk
    ·exact (QF rfl rfl rfl)
    ·exact ⟨_, _, rfl, .inr ⟨fun h => hc2 h.2.2, rfl, rfl⟩, rfl⟩
    ·exact Take.ent' (by repeat' constructor)
   ·have hfit : ∀ p ∈ px, X1 p (QZ K) M := Classical.not_not.1 hc2
    have hpl : px.length = Wn * Hn := by omega
    have hWP : WrP K (Wn : Int) (Hn : Int) M px := ⟨hP, by rw [hpl]; push_cast; rfl, hfit⟩
    have hun : ∀ p ∈ px, Qp p ≠ [] := fun p hp e => by have h1 := (hfit p hp).2.1; rw [e] at h1; simp at h1; omega
    have hne : px ≠ [] := fun e => by have h1 := Nat.mul_pos (show 0 < Wn by omega) (show 0 < Hn by omega); rw [e] at hpl; simp at hpl; omega
    refine Wp.skip (Qb (Qa (XK rfl ?_)))
    intro gB
    refine WpL.nil (Qb (Qb (Qa (Qj (o2 := 0) rfl rfl rfl (Qo rfl rfl (by rfl) ?_)))))
    refine QO rfl rfl rfl (WpL.nil (Qm rfl (fun h1 => ?_) (fun h1 => ?_)))
    ·have hK1 : K = 1 := by omega
     have hch1 : QZ K = 1 := by rw [hK1]; rfl
     refine Qb (Qb (Qa (Qj (o2 := 2) rfl rfl rfl (Qo rfl rfl (by rfl) ?_))))
     refine Qd rfl rfl (WpL.nil (Wp.block ?_))
     refine Wp.loopD (σ := WbX) (fun x => x.k ≤ Hn ∧ x.bs = wrL K (Wn : Int) 0 (px.take (x.k * Wn)) ∧ (x.p = none ∨ x.p = some ⟨gB, 0, none⟩)) [11, 12, 13, 14, 50, 51, 52, 53, 54, 55, 56, 57, 58, 59, 60, 61, 62, 63, 64, 65, 66, 67, 68, 69, 70, 71, 72, 73, 74, 75, 76, 77, 78, 79, 80, 81, 82, 83, 84, 85, 86, 87, 88, 89, 90, 91, 92, 93, 94] (fun x => [(50, .int .i64 (x.k : Int))]) (fun x => [QB gB [.pointer x.p, .slice x.a x.bs.length x.c] 207, QG 5 1 x.a x.c x.bs.length (Xn x.bs), QB gF [.int .i64 (QZ K), .int .i64 M] 48, QB g1 [.int .i64 K, .int .i64 (Wn : Int), .int .i64 (Hn : Int), .int .i64 M] 98, A0]) (fun x => Hn - x.k) ⟨0, [], none, none, 0⟩ ?_ (by repeat (first | exact FrLe.nil | refine FrLe.cons rfl ?_)) ?_ ?_
     ·exact ⟨Nat.zero_le _, by simp only; rw [Nat.zero_mul, List.take_zero]; rfl, .inl rfl⟩
     ·exact (Ent.own_nil (T := 5) (s := 1) (Ent.refl _)).trans (Take.ent' (by repeat' constructor))
     ·rintro ⟨k, bs, p, a, c⟩ ⟨hk, hbs, hp⟩
      dsimp only at hk hbs hp ⊢
      refine Qb (Qa (Q6 rfl rfl rfl (WpL.nil (Qb (Qm rfl (fun h3 => ?_) (fun h3 => ?_))))))
      ·have hlt : k < Hn := by omega
       have hkW : (k + 1) * Wn = k * Wn + Wn := by rw [Nat.add_mul, Nat.one_mul]
       have hkW2 : (k + 1) * Wn ≤ Hn * Wn := Nat.mul_le_mul_right _ hlt
       rw [Nat.mul_comm Hn Wn] at hkW2
       have ei1 : (k : Int) * (Wn : Int) = ((k * Wn : Nat) : Int) := by push_cast; rfl
       have ei2 : ((k : Int) + 1) * (Wn : Int) = (((k + 1) * Wn : Nat) : Int) := by push_cast; rfl
       refine Wp.skip (Qb (Wp.block ?_))
       refine Qb (Qa (Qd rfl rfl (Qe rfl rfl (WpL.nil (Qb (Qa (Qd rfl rfl (Qd rfl rfl (Qj (o2 := 1) rfl rfl rfl (Qo rfl rfl (by rfl) ?_))))))))))
       refine Xz rfl rfl rfl (Qt (by omega) (by omega)) ?_
       rw [ei1]
       refine Qd rfl rfl (QE rfl rfl rfl (Qt (by omega) (by omega)) ?_)
       refine Qj (o2 := 1) rfl rfl rfl (Qo rfl rfl (by rfl) ?_)
       refine Xz rfl rfl rfl (Qt (by omega) (by omega)) ?_
       rw [ei2]
       refine Qd rfl rfl (QE rfl rfl rfl (Qt (by omega) (by omega)) ?_)
       refine Qj (o2 := 1) rfl rfl rfl (Qo rfl rfl (by rfl) ?_)
       refine Xz rfl rfl rfl (Qt (by omega) (by omega)) ?_
       rw [ei2]
       refine s_sll_lhm (L := k * Wn) (H := (k + 1) * Wn) (M := (k + 1) * Wn) rfl rfl rfl rfl rfl rfl rfl rfl (by omega) (by omega) (by omega) ?_
       refine Qe rfl rfl (WpL.nil (Qb (Qa (Qd rfl rfl (QK rfl rfl (Qd rfl rfl (WpL.nil (Wp.block ?_))))))))
       have hRw := hA.sla (k * Wn) ((k + 1) * Wn) ((k + 1) * Wn) 1 (Nat.le_refl _)
       rw [pxs_sub] at hRw
       rw [show (k + 1) * Wn - k * Wn = Wn by omega] at hRw ⊢
       have hrl : ((px.drop (k * Wn)).take Wn).length = Wn := by rw [List.length_take, List.length_drop]; omega
       refine Wp.loopD (σ := WbX) (fun y => y.k ≤ Wn ∧ y.bs = wrL K (Wn : Int) 0 (px.take (k * Wn + y.k)) ∧ (y.p = none ∨ y.p = some ⟨gB, 0, none⟩)) [13, 14, 71, 72, 73, 74, 75, 76, 77, 78, 79, 80, 81, 82, 83, 84, 85, 86, 87, 88, 89, 90, 91, 92, 93] (fun y => [(71, .int .i64 (y.k : Int))]) (fun y => [QB gB [.pointer y.p, .slice y.a y.bs.length y.c] 207, QG 5 1 y.a y.c y.bs.length (Xn y.bs), QB gF [.int .i64 (QZ K), .int .i64 M] 48, QB g1 [.int .i64 K, .int .i64 (Wn : Int), .int .i64 (Hn : Int), .int .i64 M] 98, A0]) (fun y => Wn - y.k) ⟨0, bs, p, a, c⟩ ?_ (by repeat (first | exact FrLe.nil | refine FrLe.cons rfl ?_)) ?_ ?_
       ·exact ⟨Nat.zero_le _, hbs, hp⟩
       ·exact Ent.refl _
       ·clear hbs hp
        rintro ⟨j, bs, p, a, c⟩ ⟨hj, hbs, hp⟩
        dsimp only at hj hbs hp ⊢
        refine Qb (Qa (Q6 rfl rfl rfl (WpL.nil (Qb (Qm rfl (fun h5 => ?_) (fun h5 => ?_))))))
        ·have hlt2 : k * Wn + j < px.length := by omega
         have hlr : j < ((px.drop (k * Wn)).take Wn).length := by omega
         have hpb := hr _ (List.getElem_mem hlt2)
         have hft := hfit _ (List.getElem_mem hlt2)
         have hul : (Qp (px[k * Wn + j]'hlt2)).length = 1 := by have := hft.2.1; rw [hch1] at this; omega
         have hu0 : 0 < (Qp (px[k * Wn + j]'hlt2)).length := by omega
         have hub := X5 (px[k * Wn + j]'hlt2) _ (List.getElem_mem hu0)
         have hdl := digs_len5 hub.2
         have hbl := wrL_len (K := K) (W := (Wn : Int)) (px.take (k * Wn + j)) 0
         rw [← hbs, List.length_take] at hbl
         have hmod : ((k * Wn + j : Nat) : Int) % (Wn : Int) = (j : Int) := by push_cast; exact mod_row (by omega) (by omega)
         have hjb : Yu (Qp (px[k * Wn + j]'hlt2)) = (Ys ((Qp (px[k * Wn + j]'hlt2))[0]'hu0).toNat) := joinB_one hul hu0
         have hstep : ∀ b, b = (bs ++ Yu (Qp (px[k * Wn + j]'hlt2))) ++ (if nlB K (Wn : Int) (k * Wn + j) = true then [10] else []) → b = wrL K (Wn : Int) 0 (px.take (k * Wn + (j + 1))) := fun b hb => by rw [hb, ← Nat.add_assoc, wr_take hlt2, hbs, List.append_assoc]
         rw [hjb] at hstep
         refine Wp.skip (Qb (Wp.block ?_))
         refine Qb (Qa (Qd rfl rfl (Q3 j rfl rfl rfl hRw (by exact Take.ent' (by repeat' constructor)) rfl (by omega) (by rw [Xt]; omega) ?_)))
         refine Xb (v := (.int .u64 (px[k * Wn + j]'hlt2))) rfl rfl hRw (by exact Take.ent' (by repeat' constructor)) ((Yg _ hlr).trans (by rw [sub_at hlr hlt2])) ?_
         refine Qe rfl rfl (Qe rfl rfl (WpL.nil (Qb (Qa (Qd rfl rfl (Qg rfl rfl (by repeat' constructor) (XI _ hpb.1 hpb.2) ?_))))))
         rintro _ _ ⟨A1, a1, c1, rfl, rfl, hA1, hn1⟩
         simp only [Qr]
         refine Q3 0 rfl rfl rfl hA1 (by exact Take.ent' (by repeat' constructor)) rfl (by omega) (by rw [QX]; omega) ?_
         refine Xb rfl rfl hA1 (by exact Take.ent' (by repeat' constructor)) (XX _ hu0) ?_
         refine Qg rfl rfl (by repeat' constructor) (YX _ hub.1 (by omega)) ?_
         rintro _ _ ⟨rfl, rfl⟩
         simp only [Qr]
         refine Qg rfl rfl (by repeat' constructor) (Y9 gB p a c bs hp _ (by rw [YZ]; omega)) ?_
         rintro _ _ ⟨ab, cb, rfl⟩
         simp only [Qr]
         rw [digs_str]
         refine WpL.nil (Qb (Qa (Qd rfl rfl (Y6 rfl rfl rfl (by omega) (by omega) ?_))))
         refine QO rfl rfl rfl (Qd rfl rfl (QH rfl rfl rfl (fun hg3 => ?_) (fun hg3 => ?_)))
         ·have hg3 := of_decide_eq_false hg3
          refine Qd rfl rfl (Qf rfl rfl (Qj (o2 := 1) rfl rfl rfl (Qf rfl rfl (Qo rfl rfl (by rfl) ?_))))
          refine Qf rfl rfl (Yz rfl rfl rfl (Qt (by omega) (by omega)) ?_)
          refine Qf rfl rfl (QO rfl rfl rfl (Qq rfl rfl rfl (WpL.nil (Qm rfl (fun h6 => ?_) (fun h6 => ?_)))))
          ·refine Qa (Qg rfl rfl (by repeat' constructor) (BWriteByte_spec gB _ ab cb _ (.inr rfl) 10 (by rw [List.length_append]; omega)) ?_)
           rintro _ _ ⟨ab2, cb2, rfl⟩
           simp only [Qr]
           refine WpL.nil (Qa (QE rfl rfl rfl (Qt (by omega) (by omega)) ?_))
           refine Qd rfl rfl (WpL.nil (Qy (⟨j + 1, bs ++ (Ys ((Qp (px[k * Wn + j]'hlt2))[0]'hu0).toNat) ++ [10], some ⟨gB, 0, none⟩, ab2, cb2⟩ : WbX) ?_ ?_ (by ((repeat (first | exact Top.refl | refine Top.push rfl ?_)); done)) (by repeat (first | exact FrLe.nil | refine FrLe.cons rfl ?_)) ?_))
           ·exact ⟨by simp only; omega, hstep _ (nl_t (.inr (.inl (by rw [hmod]; omega))) rfl), .inr rfl⟩
           ·simp only; omega
           ·exact Take.ent' (by repeat' constructor)
          ·refine Wp.skip (Qa (QE rfl rfl rfl (Qt (by omega) (by omega)) ?_))
           refine Qd rfl rfl (WpL.nil (Qy (⟨j + 1, bs ++ (Ys ((Qp (px[k * Wn + j]'hlt2))[0]'hu0).toNat), some ⟨gB, 0, none⟩, ab, cb⟩ : WbX) ?_ ?_ (by ((repeat (first | exact Top.refl | refine Top.push rfl ?_)); done)) (by repeat (first | exact FrLe.nil | refine FrLe.cons rfl ?_)) ?_))
           ·exact ⟨by simp only; omega, hstep _ (nl_f (by omega) (by rw [hmod]; omega) (by rw [hmod]; omega) rfl), .inr rfl⟩
           ·simp only; omega
           ·exact Take.ent' (by repeat' constructor)
         ·have hg3 := of_decide_eq_true hg3
          refine Qc rfl rfl rfl (by decide) (Qc rfl rfl rfl (by decide) (Qc rfl rfl rfl (by decide) (Qc rfl rfl rfl (by decide) (Qx rfl rfl rfl (WpL.nil (XG rfl (Qa (Qg rfl rfl (by repeat' constructor) (BWriteByte_spec gB _ ab cb _ (.inr rfl) 10 (by rw [List.length_append]; omega)) ?_))))))))
          rintro _ _ ⟨ab2, cb2, rfl⟩
          simp only [Qr]
          refine WpL.nil (Qa (QE rfl rfl rfl (Qt (by omega) (by omega)) ?_))
          refine Qd rfl rfl (WpL.nil (Qy (⟨j + 1, bs ++ (Ys ((Qp (px[k * Wn + j]'hlt2))[0]'hu0).toNat) ++ [10], some ⟨gB, 0, none⟩, ab2, cb2⟩ : WbX) ?_ ?_ (by ((repeat (first | exact Top.refl | refine Top.push rfl ?_)); done)) (by repeat (first | exact FrLe.nil | refine FrLe.cons rfl ?_)) ?_))
          ·exact ⟨by simp only; omega, hstep _ (nl_t (.inr (.inr (by rw [hmod]; omega))) rfl), .inr rfl⟩
          ·simp only; omega
          ·exact Take.ent' (by repeat' constructor)
        ·have hjw : j = Wn := by omega
         refine QL (Qa (QE rfl rfl rfl (Qt (by omega) (by omega)) ?_))
         refine Qd rfl rfl (WpL.nil (Qy (⟨k + 1, bs, p, a, c⟩ : WbX) ?_ ?_ (by ((repeat (first | exact Top.refl | refine Top.push rfl ?_)); done)) (by repeat (first | exact FrLe.nil | refine FrLe.cons rfl ?_)) ?_))
         ·exact ⟨by simp only; omega, by simp only; rw [hbs, hjw, Nat.add_mul, Nat.one_mul], hp⟩
         ·simp only; omega
         ·exact Ent.refl _
      ·have hke : k = Hn := by omega
       rw [hke, Nat.mul_comm Hn Wn, List.take_of_length_le (by omega)] at hbs
       have hbl := wrL_len (K := K) (W := (Wn : Int)) px 0
       have hbp := wrL_pos (K := K) (W := (Wn : Int)) hne hun 0
       have hbb := wrL_byte (K := K) (W := (Wn : Int)) px 0
       subst hbs
       refine QL (Qb (Qa (Qg rfl rfl (by repeat' constructor) (BString_spec gB c p a _ hbp (by omega) hbb) ?_)))
       rintro _ _ ⟨rfl, rfl⟩
       simp only [Qr]
       refine Qe rfl rfl (Qe rfl rfl (WpL.nil (Qh ?_)))
       apply RetQ.mk
       ·exact (QF rfl rfl rfl)
       ·exact ⟨_, _, rfl, .inl ⟨hWP, rfl, Zr hbb, by rw [YZ]; omega⟩, rfl⟩
       ·exact Take.ent' (by repeat' constructor)
    ·refine Wp.skip (Qb (Qb (Qa (Qd rfl rfl (QK rfl rfl (Qd rfl rfl (WpL.nil (Wp.block ?_))))))))
     refine Wp.loopD (σ := WbX) (fun x => x.k ≤ px.length ∧ x.bs = wrL K (Wn : Int) 0 (px.take x.k) ∧ (x.p = none ∨ x.p = some ⟨gB, 0, none⟩)) [16, 17, 19, 98, 99, 100, 101, 102, 103, 104, 105, 106, 107, 108, 109, 110, 111, 112, 113, 114, 115, 116, 117, 118, 119] (fun x => [(98, .int .i64 (x.k : Int))]) (fun x => [QB gB [.pointer x.p, .slice x.a x.bs.length x.c] 207, QG 5 1 x.a x.c x.bs.length (Xn x.bs), QB gF [.int .i64 (QZ K), .int .i64 M] 48, QB g1 [.int .i64 K, .int .i64 (Wn : Int), .int .i64 (Hn : Int), .int .i64 M] 98, A0]) (fun x => px.length - x.k) ⟨0, [], none, none, 0⟩ ?_ (by repeat (first | exact FrLe.nil | refine FrLe.cons rfl ?_)) ?_ ?_
     ·exact ⟨Nat.zero_le _, rfl, .inl rfl⟩
     ·exact (Ent.own_nil (T := 5) (s := 1) (Ent.refl _)).trans (Take.ent' (by repeat' constructor))
     ·rintro ⟨k, bs, p, a, c⟩ ⟨hk, hbs, hp⟩
      dsimp only at hk hbs hp ⊢
      refine Qb (Qa (Q6 rfl rfl rfl (WpL.nil (Qb (Qm rfl (fun h8 => ?_) (fun h8 => ?_))))))
      ·have hlt : k < px.length := by omega
       have hpb := hr _ (List.getElem_mem hlt)
       have hft := hfit _ (List.getElem_mem hlt)
       have hul : ((Qp px[k]).length : Int) = QZ K := hft.2.1
       have hjl := joinB_len (Qp px[k]) fun x hx => (X5 px[k] x hx).2
       have hbl := wrL_len (K := K) (W := (Wn : Int)) (px.take (k)) 0
       rw [← hbs, List.length_take] at hbl
       refine Wp.skip (Qb (Wp.block ?_))
       refine Qb (Qa (Q3 k rfl rfl rfl hA (by exact Take.ent' (by repeat' constructor)) rfl (by omega) (by rw [Xt]; omega) ?_))
       refine Xb rfl rfl hA (by exact Take.ent' (by repeat' constructor)) (Yg px hlt) ?_
       refine Qe rfl rfl (WpL.nil (Qb (Qa (Qe rfl rfl (WpL.nil (Qb (Qb (Qa (Qd rfl rfl (Qg rfl rfl (by repeat' constructor) (XI _ hpb.1 hpb.2) ?_))))))))))
       rintro _ _ ⟨A1, a1, c1, rfl, rfl, hA1, hn1⟩
       simp only [Qr]
       refine QK rfl rfl (Qd rfl rfl (WpL.nil (Wp.block ?_)))
       refine Wp.loopD (σ := WoX) (fun z => z.ws.length ≤ (Qp px[k]).length ∧ z.ws = (wsOf px[k]).take z.ws.length) [17, 19, 105, 106, 107, 108, 109, 110, 111, 112, 113, 114] (fun z => [(105, .int .i64 (z.ws.length : Int)), (17, .slice z.a z.ws.length z.c)]) (fun z => QG 9 1 z.a z.c z.ws.length (strs z.ws) :: A1 :: [QB gB [.pointer p, .slice a bs.length c] 207, QG 5 1 a c bs.length (Xn bs), QB gF [.int .i64 (QZ K), .int .i64 M] 48, QB g1 [.int .i64 K, .int .i64 (Wn : Int), .int .i64 (Hn : Int), .int .i64 M] 98, A0]) (fun z => (Qp px[k]).length - z.ws.length) ⟨[], none, 0⟩ ?_ (by repeat (first | exact FrLe.nil | refine FrLe.cons rfl ?_)) ?_ ?_
       ·exact ⟨Nat.zero_le _, rfl⟩
       ·exact Ent.own_nil (T := 9) (s := 1) (Ent.refl _)
       ·rintro ⟨ws, a9, c9⟩ ⟨hw1, hw2⟩
        dsimp only at hw1 hw2 ⊢
        refine Qb (Qa (Q6 rfl rfl rfl (WpL.nil (Qb (Qm rfl (fun h10 => ?_) (fun h10 => ?_))))))
        ·have hlw : ws.length < (Qp px[k]).length := by omega
         have hub := X5 px[k] _ (List.getElem_mem hlw)
         refine Wp.skip (Qb (Wp.block ?_))
         refine Qb (Qa (Q3 ws.length rfl rfl rfl hA1 (by exact Take.ent' (by repeat' constructor)) rfl (by omega) (by rw [QX]; omega) ?_))
         refine Xb rfl rfl hA1 (by exact Take.ent' (by repeat' constructor)) (XX _ hlw) ?_
         refine Qe rfl rfl (WpL.nil (Qa (Qd rfl rfl (Qd rfl rfl (Qg rfl rfl (by repeat' constructor) (YX _ hub.1 (by omega)) ?_)))))
         rintro _ _ ⟨rfl, rfl⟩
         simp only [Qr]
         refine Y4 rfl rfl rfl rfl ?_
         intro g4
         refine X9 rfl rfl rfl (by repeat' constructor) (by rfl) (by rfl) (by rfl) (by rfl) (by have := Xs px[k]; omega) (by have := Xs px[k]; omega) ?_
         intro a113 c113
         rw [strs_snoc, show ws.length + 1 = (ws ++ [strOfNums (Ys ((Qp px[k])[ws.length]'hlw).toNat)]).length from by simp]
         refine Qe rfl rfl (WpL.nil (Qa (QE rfl rfl rfl (Qt (by omega) (by omega)) ?_)))
         refine Qd rfl rfl (WpL.nil (Qy (⟨ws ++ [strOfNums (Ys ((Qp px[k])[ws.length]'hlw).toNat)], a113, c113⟩ : WoX) ?_ ?_ (by ((repeat (first | exact Top.refl | refine Top.push rfl ?_)); done)) (FrLe.cons (congrArg (fun x => some (Value.int .i64 x)) (by simp)) (FrLe.cons rfl FrLe.nil)) ?_))
         ·refine ⟨by simp; omega, ?_⟩
          simp only [List.length_append, List.length_cons, List.length_nil, Nat.zero_add]
          have hlw2 : ws.length < (wsOf px[k]).length := by simp [wsOf]; omega
          rw [List.take_succ_eq_append_getElem hlw2, ← hw2]
          simp [wsOf]
         ·simp only [List.length_append, List.length_cons, List.length_nil]; omega
         ·exact Ent.refl _
        ·have hwl : ws.length = (wsOf px[k]).length := by simp [wsOf]; omega
         have hwe : ws = wsOf px[k] := by rw [hw2, hwl, List.take_length]
         have hint : [32].intercalate (ws.map QW) = Yu (Qp px[k]) := by rw [hwe, wsOf_bytes, joinB_inter]
         refine QL (Qa (Qd rfl rfl (Qg rfl rfl (by repeat' constructor) (Join_spec _ _ ws ⟨#[32]⟩ (by simp [wsOf] at hwl; omega) (by have := Xs px[k]; omega) (by rw [show QW ⟨#[32]⟩ = [32] from rfl, hint]; have := Xs px[k]; omega)) ?_)))
         rintro _ _ ⟨sj, rfl, hsj, rfl⟩
         simp only [Qr]
         have hsj2 : QW sj = Yu (Qp px[k]) := hsj.trans hint
         have hsz : sj.size ≤ 18 := by rw [← XB, hsj2]; have := Xs px[k]; omega
         have hnl : (⟨#[10]⟩ : ByteArray).size = 1 := rfl
         refine s_cat rfl rfl rfl (by omega) ?_
         refine Qg rfl rfl (by repeat' constructor) (Y9 gB p a c bs hp _ (by rw [ByteArray.size_append]; omega)) ?_
         rintro _ _ ⟨ab, cb, rfl⟩
         simp only [Qr]
         refine WpL.nil (Qa (QE rfl rfl rfl (Qt (by omega) (by omega)) ?_))
         refine Qd rfl rfl (WpL.nil (Qy (⟨k + 1, bs ++ QW (sj ++ ⟨#[10]⟩), some ⟨gB, 0, none⟩, ab, cb⟩ : WbX) ?_ ?_ (by ((repeat (first | exact Top.refl | refine Top.push rfl ?_)); done)) (by repeat (first | exact FrLe.nil | refine FrLe.cons rfl ?_)) ?_))
         ·refine ⟨by simp only; omega, ?_, .inr rfl⟩
          simp only
          rw [wr_take hlt, hbs, bsOf_app, hsj2, show nlB K (Wn : Int) k = true from decide_eq_true (.inl (by omega)), if_pos rfl, show QW ⟨#[10]⟩ = [10] from rfl]
         ·simp only; omega
         ·exact Take.ent' (by repeat' constructor)
      ·have hke : k = px.length := by omega
       rw [hke, List.take_length] at hbs
       have hbl := wrL_len (K := K) (W := (Wn : Int)) px 0
       have hbp := wrL_pos (K := K) (W := (Wn : Int)) hne hun 0
       have hbb := wrL_byte (K := K) (W := (Wn : Int)) px 0
       subst hbs
       refine QL (Qb (Qa (Qg rfl rfl (by repeat' constructor) (BString_spec gB c p a _ hbp (by omega) hbb) ?_)))
       rintro _ _ ⟨rfl, rfl⟩
       simp only [Qr]
       refine Qe rfl rfl (Qe rfl rfl (WpL.nil (Qh ?_)))
       apply RetQ.mk
       ·exact (QF rfl rfl rfl)
       ·exact ⟨_, _, rfl, .inl ⟨hWP, rfl, Zr hbb, by rw [YZ]; omega⟩, rfl⟩
       ·exact Take.ent' (by repeat' constructor)
  ·have hg2 := of_decide_eq_true hg2
   refine Qc rfl rfl rfl (by decide) (Qc rfl rfl rfl (by decide) (Qx rfl rfl rfl (WpL.nil (XG rfl (Qb (Qa (Qe rfl rfl (Qe rfl rfl (WpL.nil (Qh ?_))))))))))
   apply RetQ.mk
   ·exact (QF rfl rfl rfl)
   ·exact ⟨_, _, rfl, .inr ⟨fun h => hg2 (by have := h.2.1; omega), rfl, rfl⟩, rfl⟩
   ·exact Take.ent' (by repeat' constructor)
 ·simp only [Qr]
  exfalso
  exact hP' hP

end Go.Proofs.YtggamdlpiejbiaaGreat
