/- Walks and plain laws, a part of the proof of PnmJoins: every input that the law's guards let in, no condition beside. -/
import Derived.Laws.StructEq
import Derived.ChangeKeysEq
import Derived.Test.YtggamdlpiejbiaaGreatM22
namespace Go.Proofs.YtggamdlpiejbiaaGreat
open Go.RowKit Go.Shelf

def Zk (es : List Evt) : Int := ((es.filter fun x => decide (x.k = 3)).length : Int)
theorem cnt3_app (a b : List Evt) : Zk (a ++ b) = Zk a + Zk b := by unfold Zk; rw [List.filter_append, List.length_append]; push_cast; rfl
def EvOk (es : List Evt) : Prop := ∀ x ∈ es.tail, x.row = []
theorem psEvts_q (s : PS) (bd : Bd) (st e : Int) (row : List Int) : (Xm s bd st e row).1.told = s.told ∧ (Xm s bd st e row).1.imgs = s.imgs + Zk (Xm s bd st e row).2 ∧ EvOk (Xm s bd st e row).2 ∧ (Xm s bd st e row).1.over = s.over := by
  unfold Xm XC Xq
  by_cases h1 : st = 1 <;> by_cases h2 : st = 2 <;> by_cases h3 : row = [] <;> simp [h1, h2, h3, Zk, EvOk]
  all_goals (subst h2; simp_all)
theorem psHeads_q (s : PS) (h : HS) : (Q8 s h).1.told = s.told ∧ (Q8 s h).1.imgs = s.imgs + Zk (Q8 s h).2 ∧ EvOk (Q8 s h).2 ∧ (Q8 s h).1.over = s.over := by
  unfold Q8
  repeat' split
  all_goals simp [Zk, EvOk]
theorem psStep_q (l0 l1 l2 : Int) (s : PS) (c : Int) : (Xt l0 l1 l2 s c).1.told = s.told ∧ (Xt l0 l1 l2 s c).1.imgs = s.imgs + Zk (Xt l0 l1 l2 s c).2 ∧ EvOk (Xt l0 l1 l2 s c).2 ∧ (Xt l0 l1 l2 s c).1.over = s.over := by
  unfold Xt
  split
  · split
    · simp [Zk, EvOk]
    · exact psHeads_q _ _
  · split
    · exact psHeads_q _ _
    · unfold psBody
      split
      · simp [Zk, EvOk]
      · exact psEvts_q _ _ _ _ _
      · exact psEvts_q _ _ _ _ _
def YD (s : PS) : Prop := s.over = false ∧ s.e = 0
theorem dead_of {s : PS} (h : ¬ YD s) : s.over = true ∨ s.e ≠ 0 := by
  unfold YD at h
  by_cases he : s.e = 0
  · left; cases ho : s.over with
    | true => rfl
    | false => exact absurd ⟨ho, he⟩ h
  · exact .inr he
theorem psPut_q (l0 l1 l2 : Int) (s : PS) (c : Int) : ((Xf l0 l1 l2 s c).2 ≠ [] → YD s) ∧ (YD (Xf l0 l1 l2 s c).1 → YD s) ∧ (YD s → (Xf l0 l1 l2 s c).1.told = s.told + 1) ∧ (Xf l0 l1 l2 s c).1.imgs = s.imgs + Zk (Xf l0 l1 l2 s c).2 ∧ EvOk (Xf l0 l1 l2 s c).2 := by
  by_cases h : YD s
  · rw [Zh _ _ _ h.1 h.2]
    have q := psStep_q l0 l1 l2 { s with told := s.told + 1 } c
    exact ⟨fun _ => h, fun _ => h, fun _ => q.1, q.2.1, q.2.2.1⟩
  · rw [psPut_dead _ _ _ (dead_of h)]
    exact ⟨fun q => absurd rfl q, fun q => absurd q h, fun q => absurd q h, by simp [Zk], by simp [EvOk]⟩
theorem psEnd_q (s : PS) : ((XV s).2 ≠ [] → YD s) ∧ ¬ YD (XV s).1 ∧ (XV s).1.told = s.told ∧ (XV s).1.imgs = s.imgs + Zk (XV s).2 ∧ EvOk (XV s).2 := by
  by_cases h : YD s
  · obtain ⟨hd, ph, bd, told, imgs, over, e⟩ := s
    obtain ⟨h1, h2⟩ := h
    dsimp only at h1 h2
    subst h1 h2
    unfold XV
    rw [if_neg (by simp)]
    cases bd with
    | no =>
      dsimp only
      split <;> simp [Zk, EvOk, YD]
    | pl r =>
      have q := psEvts_q ⟨hd, ph, .pl r, told, imgs, true, 0⟩ (.pl (Yd (hd.getD hd0).K (hd.getD hd0).W (hd.getD hd0).H r).1) (Yd (hd.getD hd0).K (hd.getD hd0).W (hd.getD hd0).H r).1.last (Yd (hd.getD hd0).K (hd.getD hd0).W (hd.getD hd0).H r).1.e (Yd (hd.getD hd0).K (hd.getD hd0).W (hd.getD hd0).H r).2
      have hz : ¬ YD (Xm ⟨hd, ph, .pl r, told, imgs, true, 0⟩ (.pl (Yd (hd.getD hd0).K (hd.getD hd0).W (hd.getD hd0).H r).1) (Yd (hd.getD hd0).K (hd.getD hd0).W (hd.getD hd0).H r).1.last (Yd (hd.getD hd0).K (hd.getD hd0).W (hd.getD hd0).H r).1.e (Yd (hd.getD hd0).K (hd.getD hd0).W (hd.getD hd0).H r).2).1 := fun z => by
        have z1 := z.1
        rw [q.2.2.2] at z1
        cases z1
      exact ⟨fun _ => ⟨rfl, rfl⟩, hz, q.1, q.2.1, q.2.2.1⟩
    | rw r => simp [Zk, EvOk, YD]
  · have e : XV s = (s, []) := if_pos (dead_of h)
    rw [e]
    exact ⟨fun q => absurd rfl q, h, rfl, by simp [Zk], by simp [EvOk]⟩
theorem YT (l0 l1 l2 : Int) : ∀ (xs bs : List Int) (s : PS), QL l0 l1 l2 s (xs ++ bs) = Ye (QL l0 l1 l2 s xs).2 (QL l0 l1 l2 (QL l0 l1 l2 s xs).1 bs)
  | [], bs, s => by simp [QL, Ye]
  | a :: xs, bs, s => by
    rw [List.cons_append, Xz, YT l0 l1 l2 xs bs, Xz, papp_papp]
    rfl
theorem psRun_snoc (l0 l1 l2 : Int) (bs : List Int) (c : Int) (s : PS) : QL l0 l1 l2 s (bs ++ [c]) = ((Xf l0 l1 l2 (QL l0 l1 l2 s bs).1 c).1, (QL l0 l1 l2 s bs).2 ++ (Xf l0 l1 l2 (QL l0 l1 l2 s bs).1 c).2.map fun x => (x, (Xf l0 l1 l2 (QL l0 l1 l2 s bs).1 c).1.told)) := by
  rw [YT, Xz]
  simp [QL, Ye]
theorem psRun_told (l0 l1 l2 : Int) (bs : List Int) : ∀ k, k ≤ bs.length → YD (QL l0 l1 l2 ps0 (bs.take k)).1 → (QL l0 l1 l2 ps0 (bs.take k)).1.told = (k : Int)
  | 0, _, _ => rfl
  | k + 1, hk, h => by
    rw [List.take_succ_eq_append_getElem (by omega), psRun_snoc] at h ⊢
    have q := psPut_q l0 l1 l2 (QL l0 l1 l2 ps0 (bs.take k)).1 (bs[k]'(by omega))
    have h0 := q.2.1 h
    have ih := psRun_told l0 l1 l2 bs k (by omega) h0
    dsimp only
    rw [q.2.2.1 h0, ih]
    push_cast; rfl
theorem Vg (l0 l1 l2 : Int) : ∀ (bs : List Int) (s : PS), (QL l0 l1 l2 s bs).1.imgs = s.imgs + Zk ((QL l0 l1 l2 s bs).2.map (·.1))
  | [], s => by simp [QL, Zk]
  | c :: bs, s => by
    rw [Xz]
    have q := psPut_q l0 l1 l2 s c
    have ih := Vg l0 l1 l2 bs (Xf l0 l1 l2 s c).1
    simp only [Ye, List.map_append, cnt3_app, List.map_map]
    rw [ih, q.2.2.2.1, show ((fun x : Evt × Int => x.1) ∘ fun x => (x, (Xf l0 l1 l2 s c).1.told)) = id from rfl, List.map_id]
    omega
/-- How a stream's reader stands behind so YO bytes; behind the last one it is told the end. -/
def rdF (l0 l1 l2 : Int) (bs : List Int) (k : Nat) : PS × List (Evt × Int) := if k ≤ bs.length then QL l0 l1 l2 ps0 (bs.take k) else Y7 l0 l1 l2 true bs
def stF (l0 l1 l2 : Int) (bs : List Int) (k : Nat) : PS × List Evt := if h : k < bs.length then Xf l0 l1 l2 (rdF l0 l1 l2 bs k).1 bs[k] else XV (rdF l0 l1 l2 bs k).1
theorem rdF_le (l0 l1 l2 : Int) {bs : List Int} {k : Nat} (h : k ≤ bs.length) : rdF l0 l1 l2 bs k = QL l0 l1 l2 ps0 (bs.take k) := if_pos h
theorem rdF_end (l0 l1 l2 : Int) (bs : List Int) : rdF l0 l1 l2 bs (bs.length + 1) = Y7 l0 l1 l2 true bs := if_neg (by omega)
theorem stF_lt (l0 l1 l2 : Int) {bs : List Int} {k : Nat} (h : k < bs.length) : stF l0 l1 l2 bs k = Xf l0 l1 l2 (rdF l0 l1 l2 bs k).1 bs[k] := dif_pos h
theorem stF_ge (l0 l1 l2 : Int) {bs : List Int} {k : Nat} (h : ¬ k < bs.length) : stF l0 l1 l2 bs k = XV (rdF l0 l1 l2 bs k).1 := dif_neg h
theorem stF_ok (l0 l1 l2 : Int) (bs : List Int) (k : Nat) : EvOk (stF l0 l1 l2 bs k).2 := by
  unfold stF
  split
  · exact (psPut_q _ _ _ _ _).2.2.2.2
  · exact (psEnd_q _).2.2.2.2
theorem rdF_step (l0 l1 l2 : Int) {bs : List Int} {k : Nat} (h : k ≤ bs.length) : rdF l0 l1 l2 bs (k + 1) = ((stF l0 l1 l2 bs k).1, (rdF l0 l1 l2 bs k).2 ++ (stF l0 l1 l2 bs k).2.map fun x => (x, (k : Int) + 1)) := by
  by_cases hk : k < bs.length
  · rw [stF_lt _ _ _ hk, rdF_le _ _ _ (show k + 1 ≤ bs.length by omega), rdF_le _ _ _ h, List.take_succ_eq_append_getElem hk, psRun_snoc]
    have q := psPut_q l0 l1 l2 (QL l0 l1 l2 ps0 (bs.take k)).1 bs[k]
    congr 2
    apply List.map_congr_left
    intro x hx
    have ha := q.1 (fun e => by rw [e] at hx; simp at hx)
    rw [q.2.2.1 ha, psRun_told l0 l1 l2 bs k h ha]
  · obtain rfl : k = bs.length := by omega
    rw [stF_ge _ _ _ hk, rdF_end, rdF_le _ _ _ (Nat.le_refl _), List.take_length]
    unfold Y7 psFin
    rw [if_pos rfl]
    have q := psEnd_q (QL l0 l1 l2 ps0 bs).1
    congr 2
    apply List.map_congr_left
    intro x hx
    have ha := q.1 (fun e => by rw [e] at hx; simp at hx)
    have ht := psRun_told l0 l1 l2 bs bs.length (Nat.le_refl _)
    rw [List.take_length] at ht
    rw [ht ha]
theorem rdF_I (a b d : Int) (bs : List Int) (hb : ∀ x ∈ bs, 0 ≤ x ∧ x ≤ 255) {k : Nat} (h : k ≤ bs.length) : psI (QP a) (QR b) (QS d) k (rdF (QP a) (QR b) (QS d) bs k).1 := by
  have q := runF_I a b d bs hb k h
  rw [runF_run] at q
  rw [rdF_le _ _ _ h]
  exact q
theorem map_fst {α β : Type} {l : List (α × β)} {es : List α} (h : l.map (·.1) = es) {i : Nat} (hi : i < l.length) (hj : i < es.length) : l[i].1 = es[i] := by subst h; simp

end Go.Proofs.YtggamdlpiejbiaaGreat
namespace Go.Proofs.YtggamdlpiejbiaaGreat
open Go.RowKit Go.Shelf
def okFs (P : Program) : Nat → List Field → Bool
  | _, [] => true
  | i, f :: fs => (f.name != "_") && (f.offset == i) && (match P.underlying f.type with | some (.int .i64) => true | _ => false) && P.plainKey f.type && okFs P (i + 1) fs
theorem run_eqFields {P : Program} (d : Nat) (us vs : List Int) (hl : us.length = vs.length) (w : World) : ∀ (fs : List Field) (i : Nat), i + fs.length = us.length → okFs P i fs = true → (Op.eqFields (d + 1) (QY us).toArray (QY vs).toArray fs).run P w = .ok (decide (us.drop i = vs.drop i)) w
  | [], i, hi, _ => by
    simp only [List.length_nil] at hi
    rw [List.drop_of_length_le (by omega), List.drop_of_length_le (by omega)]
    simp [Op.eqFields]
  | f :: fs, i, hi, hk => by
    simp only [List.length_cons] at hi
    simp only [okFs, Bool.and_eq_true, bne_iff_ne, beq_iff_eq] at hk
    obtain ⟨⟨⟨⟨h1, h2⟩, h3⟩, h4⟩, h5⟩ := hk
    have hu : P.underlying f.type = some (.int .i64) := by
      split at h3
      · assumption
      · cases h3
    have e1 : (part f.type (QY us).toArray f.offset).run P w = .ok (.int .i64 (us[i]'(by omega))) w := run_part_plain w h4 (by rw [h2]; simp [QY, List.getElem?_eq_getElem (show i < us.length by omega)])
    have e2 : (part f.type (QY vs).toArray f.offset).run P w = .ok (.int .i64 (vs[i]'(by omega))) w := run_part_plain w h4 (by rw [h2]; simp [QY, List.getElem?_eq_getElem (show i < vs.length by omega)])
    have ih := run_eqFields (P := P) d us vs hl w fs (i + 1) (by omega) h5
    unfold Op.eqFields
    rw [if_pos h1]
    simp only [Sem.run_bind, e1, e2, Result.andThen_ok, run_equalIn_int w d f.type .i64 .i64 _ _ hu]
    have d1 := List.drop_eq_getElem_cons (show i < us.length by omega)
    have d2 := List.drop_eq_getElem_cons (show i < vs.length by omega)
    by_cases hx : us[i]'(by omega) = vs[i]'(by omega)
    · rw [if_neg (by simp [hx]), ih]
      have q : us.drop (i + 1) = vs.drop (i + 1) ↔ us.drop i = vs.drop i := by
        rw [d1, d2, hx]
        exact ⟨fun e => by rw [e], fun e => (List.cons.inj e).2⟩
      rw [decide_eq_decide.2 q]
    · rw [if_pos (by simp [hx])]
      have q : ¬ us.drop i = vs.drop i := by
        rw [d1, d2]
        exact fun e => hx (List.cons.inj e).1
      rw [decide_eq_false q]
      simp
class AeqT (P : Program) (T : Nat) (k : outParam Nat) : Prop where
  hu : P.underlying T = some (.struct (P.fieldsOf T))
  st : P.stoodInHeld T = false
  gd : P.eqGuardType P.depth T = false
  ok : okFs P 0 (P.fieldsOf T).toList = true
  hk : (P.fieldsOf T).toList.length = k
section
variable {P : Program} {n : Cx} {D : List Deferred} {ops : Array Oper} {rest : List Oper} {Q : Post} {fr : Fr} {l : List HP} {ty : Nat} {pos : String} {aft : Array Edge}
theorem run_aeq {T k : Nat} (hT : AeqT P T k) (us vs : List Int) (h1 : us.length = k) (h2 : vs.length = k) (w : World) : (Op.equalIn 10000 T (.agg (QY us).toArray) (.agg (QY vs).toArray)).run P w = .ok (decide (us = vs)) w := by
  rw [run_equalIn_struct w 9999 T _ _ hT.hu hT.st]
  have := run_eqFields (P := P) 9998 us vs (by omega) w (P.fieldsOf T).toList 0 (by rw [hT.hk]; omega) hT.ok
  simpa using this
theorem s_aeq {d T T2 k : Nat} {x y : Operand} (us vs : List Int) (hd : Nat.blt d n = true) [hT : AeqT P T k] (hx : ev fr x = some (.agg (QY us).toArray)) (hy : ev fr y = some (.agg (QY vs).toArray)) (h1 : us.length = k) (h2 : vs.length = k)
    (kk : WpL P n D ops rest Q ((d, .bool (decide (us = vs))) :: fr) l) : WpL P n D ops (⟨some d, .binOp .eql T x y T2, ty, pos, aft, none⟩ :: rest) Q fr l :=
  WpL.val hd (fun A w _ hh _ => by
    simp only [execOp, hh.ev hx, hh.ev hy, Sem.run_bind, run_eqGuard_agg w .eql T x y _ _ hT.gd, Result.andThen_ok, run_eql_struct, run_aeq hT us vs h1 h2]
    simp) kk
theorem own_max {w : World} {S : Nat → Prop} {T s c m : Nat} {a : Option Addr} {xs : List Value} (h : (QG T s a c m xs).p w S) : m ≤ 9223372036854775807 := by
  rcases h.2.2 with h2 | ⟨g, cap, cur, e, h0, hh, h1, h3, rest⟩
  · have := XM h
    rcases this with ⟨_, _, h, _⟩ | ⟨_, _, e, _⟩
    · omega
    · obtain ⟨e0, _⟩ := h2
      rw [e] at e0
      cases e0
  · have := XM h
    rcases this with ⟨_, _, h, _⟩ | ⟨_, _, _, _, hmc, _⟩
    · omega
    · injection e with e1 e2 e3
      unfold maxLen at h3
      omega
end
end Go.Proofs.YtggamdlpiejbiaaGreat
namespace Go.Proofs.YtggamdlpiejbiaaGreat
open Go.RowKit Go.Shelf

instance : AeqT Tryz.prog 48 2 := ⟨by kernel_rfl, by kernel_rfl, by kernel_rfl, by kernel_rfl, by kernel_rfl⟩

theorem Ent.empties {α : Type} {T : Nat} {row : α → List Int} {l F : List HP} (hE : Ent l F) : ∀ (L : List (α × Option Addr × Nat)), (∀ r ∈ L, r.2 = (none, 0) ∧ row r.1 = []) → Ent l ((L.map fun r => QG T 1 r.2.1 r.2.2 (row r.1).length (Xp (row r.1))) ++ F)
  | [], _ => hE
  | (x, a, c) :: L, h => by
    obtain ⟨h1, h2⟩ := h (x, a, c) (List.mem_cons_self ..)
    simp only [Prod.mk.injEq] at h1
    obtain ⟨rfl, rfl⟩ := h1
    dsimp only at h2
    rw [List.map_cons, List.cons_append, h2]
    exact Ent.own_nil (Ent.empties hE L fun r hr => h r (List.mem_cons_of_mem _ hr))
theorem opnE {α : Type} {f : α → List HP} {F l : List HP} (h : ∀ x, Ent (f x ++ F) l) : Ent (exs f :: F) l := fun w U hs => let ⟨x, hx⟩ := exs_sat hs; h x w U hx
theorem opnP {p : Prop} {F l : List HP} (h : p → Ent F l) : Ent (pur p :: F) l := fun w U hs => h hs.pur w U hs.tail
def evC2 (x : Evt) (a : Option Addr) (c : Nat) : List Value := [.int .i64 x.k, .int .i64 x.c, .int .i64 x.m, .int .i64 x.w, .int .i64 x.h, .slice a x.row.length c]
/-- Events, each with a row of its QG. -/
def evR (a : Option Addr) (c : Nat) (evs : List Evt) : HP := rcR 51 6 92 evC2 Evt.row a c evs
theorem evO_rc {v : Value} {evs : List Evt} {F : List HP} (h : EvOk evs) : Ent (evO v evs :: F) (exs (fun p : Option Addr × Nat => [pur (v = .slice p.1 evs.length p.2), evR p.1 p.2 evs]) :: F) := by
  refine opnE fun ⟨a, c, a3, c3⟩ => ?_
  refine opnP fun hv => ?_
  refine Ent.exs (a, c) (Ent.pur hv ?_)
  cases evs with
  | nil =>
    refine Ent.exs [] (Ent.pur rfl ?_)
    simp only [List.flatMap_nil, List.length_nil, List.map_nil]
    exact Ent.cons (Ent.many (Ent.drop (Ent.refl _)))
  | cons x t =>
    have ht : ∀ y ∈ t, y.row = [] := h
    have e1 : ∀ q : Option Addr × Nat, (t.flatMap (evC a3 c3)) = (t.map fun y => (y, ((none : Option Addr), (0 : Nat)))).flatMap fun r => evC2 r.1 r.2.1 r.2.2 := fun _ => by
      clear h hv
      induction t with
      | nil => rfl
      | cons y t ih =>
        rw [List.flatMap_cons, List.map_cons, List.flatMap_cons, ih fun z hz => ht z (List.mem_cons_of_mem _ hz)]
        congr 1
        unfold evC evC2
        rw [ht y (List.mem_cons_self ..)]
        rfl
    have e2 : ∀ r ∈ (t.map fun y => (y, ((none : Option Addr), (0 : Nat)))), r.2 = (none, 0) ∧ r.1.row = [] := by
      intro r hr
      obtain ⟨y, hy, rfl⟩ := List.mem_map.1 hr
      exact ⟨rfl, ht y hy⟩
    have e3 : (t.map fun y => (y, ((none : Option Addr), (0 : Nat)))).map (·.1) = t := by rw [List.map_map]; exact (List.map_congr_left fun _ _ => rfl).trans (List.map_id t)
    by_cases hx : x.row = []
    · refine Ent.exs ((x, none, 0) :: t.map fun y => (y, none, 0)) (Ent.pur (by rw [List.map_cons, e3]) ?_)
      rw [List.flatMap_cons, List.flatMap_cons, e1 (none, 0)]
      have e0 : evC a3 c3 x = evC2 x none 0 := by unfold evC evC2; rw [if_pos hx, hx]; rfl
      rw [e0]
      refine Ent.cons (Ent.many ?_)
      rw [List.map_cons]
      simp only [List.cons_append, hx]
      exact Ent.own_nil (Ent.empties (Ent.drop (Ent.refl _)) _ e2)
    · refine Ent.exs ((x, a3, c3) :: t.map fun y => (y, none, 0)) (Ent.pur (by rw [List.map_cons, e3]) ?_)
      rw [List.flatMap_cons, List.flatMap_cons, e1 (none, 0)]
      have e0 : evC a3 c3 x = evC2 x a3 c3 := by unfold evC evC2; rw [if_neg hx]
      rw [e0]
      refine Ent.cons (Ent.many ?_)
      rw [List.map_cons]
      simp only [List.cons_append]
      exact Ent.cons (Ent.empties (Ent.refl _) _ e2)

theorem SameRowW_spec (As : List HP) (a b : Option Addr) (ca cb : Nat) (xs ys : List Int) (hx : RdsL As a (Xp xs)) (hy : RdsL As b (Xp ys)) (hl : xs.length ≤ 9223372036854775807) : Fn Tryz.prog 65 #[.slice a xs.length ca, .slice b ys.length cb] As (fun v l => v = .bool (decide (xs = ys)) ∧ l = As) := by
 refine Qk (vs := [.slice a xs.length ca, .slice b ys.length cb]) Tryz.func65 rfl Tryz.ntmps65 rfl (Qb (Qa (Qe rfl rfl (WpL.nil (Qb (Qb (Qa (Qc rfl rfl (QC rfl rfl (Qc rfl rfl (QC rfl rfl (Xn rfl rfl rfl ?_))))))))))))
 refine WpL.nil (Ql rfl (fun h0 => ?_) (fun h0 => ?_))
 ·refine Qb (Qa (Qe rfl rfl (WpL.nil (Qi ?_))))
  apply RetQ.mk
  ·exact (Res.one rfl rfl)
  ·exact ⟨congrArg Value.bool (df fun e => h0 (by rw [e])), rfl⟩
  ·exact Ent.refl _
 ·have hlen : xs.length = ys.length := by omega
  refine Wp.skip (Qb (Qb (Qa (Qe rfl rfl (WpL.nil (Wp.block ?_))))))
  refine Wp.loopD (σ := Nat) (fun k => k ≤ xs.length ∧ xs.take k = ys.take k) [4, 5, 11, 12, 13, 14, 15, 16, 17, 18, 19, 20, 21, 22, 23, 24, 25] (fun k => [(5, .int .i64 (k : Int))]) (fun _ => _) (fun k => xs.length - k) 0 ?_ (by repeat (first | exact FrLe.nil | refine FrLe.cons rfl ?_)) (Ent.refl _) ?_
  ·exact ⟨Nat.zero_le _, rfl⟩
  ·rintro k ⟨hk, htk⟩
   refine Qb (Qb (Qa (Qc rfl rfl (Qc rfl rfl (QC rfl rfl (Q7 rfl rfl rfl (WpL.nil (Ql rfl (fun h2 => ?_) (fun h2 => ?_)))))))))
   ·have hkx : k < xs.length := by omega
    have hky : k < ys.length := by omega
    refine Wp.skip (Qb (Wp.block ?_))
    refine Qb ?_
    apply Q0 mixed [⟨17, _, []⟩, ⟨18, _, []⟩, ⟨19, _, [0, 1]⟩, ⟨20, _, [2]⟩, ⟨21, _, []⟩, ⟨22, _, []⟩, ⟨23, _, [4, 5]⟩, ⟨24, _, [6]⟩, ⟨25, _, [3, 7]⟩] rfl
    ·refine AllObs.mk ?_ ?_
     ·exact Qc rfl rfl (Qm rfl)
     refine AllObs.mk ?_ ?_
     ·exact Qc rfl rfl (Qm rfl)
     refine AllObs.mk ?_ ?_
     ·refine Q4 k rfl rfl rfl hx (Ent.refl _) rfl (by omega) (by rw [X1]; exact hkx) ?_
      exact Qm rfl
     refine AllObs.mk ?_ ?_
     ·refine Q5 rfl rfl hx (Ent.refl _) (YP xs hkx) ?_
      exact Qm rfl
     refine AllObs.mk ?_ ?_
     ·exact Qc rfl rfl (Qm rfl)
     refine AllObs.mk ?_ ?_
     ·exact Qc rfl rfl (Qm rfl)
     refine AllObs.mk ?_ ?_
     ·refine Q4 k rfl rfl rfl hy (Ent.refl _) rfl hky (by rw [X1]; exact hky) ?_
      exact Qm rfl
     refine AllObs.mk ?_ ?_
     ·refine Q5 rfl rfl hy (Ent.refl _) (YP ys hky) ?_
      exact Qm rfl
     refine AllObs.mk ?_ ?_
     ·exact Xn rfl rfl rfl (Qm rfl)
     exact AllObs.nil
    ·refine Ql rfl (fun h3 => ?_) (fun h3 => ?_)
     ·refine Qb (Qa (Qe rfl rfl (WpL.nil (Qi ?_))))
      apply RetQ.mk
      ·exact (Res.one rfl rfl)
      ·exact ⟨congrArg Value.bool (df fun e => h3 (by subst e; rfl)), rfl⟩
      ·exact Ent.refl _
     ·refine Wp.skip (Qa (Qc rfl rfl (QD rfl rfl rfl (Qu (by omega) (by omega)) ?_)))
      refine Qe rfl rfl (WpL.nil (Qv (k + 1) ?_ ?_ (by ((repeat (first | exact Top.refl | refine Top.push rfl ?_)); done)) (by repeat (first | exact FrLe.nil | refine FrLe.cons rfl ?_)) ?_))
      ·refine ⟨by omega, ?_⟩
       rw [List.take_succ_eq_append_getElem hkx, List.take_succ_eq_append_getElem hky, htk, Classical.not_not.1 h3]
      ·omega
      ·exact Ent.refl _
   ·obtain rfl : k = xs.length := by omega
    have hxy : xs = ys := by rw [List.take_length, hlen, List.take_length] at htk; exact htk
    refine QM (Qb (Qa (Qe rfl rfl (WpL.nil (Qi ?_)))))
    apply RetQ.mk
    ·exact (Res.one rfl rfl)
    ·exact ⟨congrArg Value.bool (dt hxy), rfl⟩
    ·exact Ent.refl _

end Go.Proofs.YtggamdlpiejbiaaGreat
namespace Go.Proofs.YtggamdlpiejbiaaGreat
open Go.RowKit Go.Shelf

def phF : Bool → List Evt → Option Bool
  | b, [] => some b
  | b, x :: t => if x.k = 1 then phF true t else if x.k = 2 then (if b = true then phF true t else none) else if x.k = 3 then (if b = true then phF false t else none) else none
theorem phF_cons (b : Bool) (x : Evt) (t : List Evt) : phF b (x :: t) = if x.k = 1 then phF true t else if x.k = 2 then (if b = true then phF true t else none) else if x.k = 3 then (if b = true then phF false t else none) else none := rfl
def Zs (s : PS) : Bool := match s.bd with | .no => false | _ => true
theorem psEvts_ph (s : PS) (bd : Bd) (st e : Int) (row : List Int) (h : bd ≠ .no) (h2 : st = 2 → True) : phF true (Xm s bd st e row).2 = some (Zs (Xm s bd st e row).1) := by
  have hb : ∀ s : PS, s.bd = bd → Zs s = true := fun s e => by
    unfold Zs
    rw [e]
    cases bd with
    | no => exact absurd rfl h
    | pl _ => rfl
    | rw _ => rfl
  unfold Xm XC Xq
  by_cases h1 : st = 1
  · subst h1
    by_cases h3 : row = [] <;> simp [h3, phF, Zs]
  · by_cases h2 : st = 2
    · subst h2
      by_cases h3 : row = [] <;> simp [h3, phF, hb]
    · by_cases h3 : row = [] <;> simp [h1, h2, h3, phF, hb]
theorem psHeads_ph (s : PS) (h : HS) : phF (Zs s) (Q8 s h).2 = some (Zs (Q8 s h).1) := by
  unfold Q8
  repeat' split
  · rfl
  · rfl
  · simp only [phF, if_true]
    unfold Zs bd0
    split <;> simp_all <;> (split at * <;> simp_all)
theorem psStep_ph (l0 l1 l2 : Int) (s : PS) (c : Int) : phF (Zs s) (Xt l0 l1 l2 s c).2 = some (Zs (Xt l0 l1 l2 s c).1) := by
  unfold Xt
  split
  · split
    · rfl
    · exact psHeads_ph _ _
  · split
    · exact psHeads_ph _ _
    · unfold psBody
      split
      · rfl
      · rename_i r hr
        rw [show Zs s = true by unfold Zs; rw [hr]]
        exact psEvts_ph _ _ _ _ _ (by simp) (fun _ => trivial)
      · rename_i r hr
        rw [show Zs s = true by unfold Zs; rw [hr]]
        exact psEvts_ph _ _ _ _ _ (by simp) (fun _ => trivial)
theorem psPut_ph (l0 l1 l2 : Int) (s : PS) (c : Int) : phF (Zs s) (Xf l0 l1 l2 s c).2 = some (Zs (Xf l0 l1 l2 s c).1) := by
  unfold Xf
  split
  · rfl
  · exact psStep_ph l0 l1 l2 { s with told := s.told + 1 } c
theorem psEnd_ph (s : PS) : phF (Zs s) (XV s).2 = some (Zs (XV s).1) := by
  unfold XV
  split
  · rfl
  · split
    · rename_i r hr
      rw [show Zs s = true by unfold Zs; rw [hr]]
      exact psEvts_ph _ _ _ _ _ (by simp) (fun _ => trivial)
    · rfl
    · split <;> rfl
theorem stF_ph (l0 l1 l2 : Int) (bs : List Int) (k : Nat) : phF (Zs (rdF l0 l1 l2 bs k).1) (stF l0 l1 l2 bs k).2 = some (Zs (stF l0 l1 l2 bs k).1) := by
  unfold stF
  split
  · exact psPut_ph _ _ _ _ _
  · exact psEnd_ph _
theorem rowE_w {row : List Int} {st : Int} (h : row.length ≤ 4096) : ∀ x ∈ XC row ++ Xq st, x.row.length ≤ 4096 := by
  intro x hx
  unfold XC Xq at hx
  rcases List.mem_append.1 hx with hx | hx
  · split at hx
    · simp at hx
    · rw [List.mem_singleton.1 hx]; exact h
  · split at hx
    · rw [List.mem_singleton.1 hx]; simp
    · simp at hx
theorem psHeads_w (s : PS) (h : HS) : ∀ x ∈ (Q8 s h).2, x.row.length ≤ 4096 := by
  unfold Q8
  repeat' split
  all_goals simp
theorem putW_w {K H M c : Int} {W : Nat} {s : RW} (hW : W ≤ 4096) (hs : s.b.length = QF K W (Qg M)) : (Xj K W H M s c).2.length ≤ 4096 := by
  have hr : (Yw K W (Qg M) (s.b.set s.n c)).length ≤ 4096 := by rw [Y6 (Q2 M) (by rw [List.length_set]; exact hs)]; exact hW
  unfold Xj
  repeat' split
  all_goals first | exact hr | simp
theorem psPut_w {l0 l1 l2 : Int} {N : Nat} {s : PS} {c : Int} (hI : psI l0 l1 l2 N s) : ∀ x ∈ (Xf l0 l1 l2 s c).2, x.row.length ≤ 4096 := by
  by_cases ha : YD s
  · rw [Zh _ _ _ ha.1 ha.2]
    have hJ := hI.2.2 ha.1 ha.2
    unfold Xt
    split
    · split
      · simp
      · exact psHeads_w _ _
    · rename_i h0
      split
      · exact psHeads_w _ _
      · rename_i h1
        rcases hJ with ⟨q, _⟩ | ⟨q, _⟩ | ⟨_, h, hh, hf, hb⟩
        · exact absurd q h0
        · exact absurd q h1
        · have hM := hf.2.2
          unfold Xv at hM
          obtain ⟨hd, ph, bd, told, imgs, over, e⟩ := s
          dsimp only at hh hb
          subst hh
          unfold psBody Xm
          cases bd with
          | no => simp
          | pl r =>
            refine rowE_w ?_
            have q := hb.2.2.2.2.2
            exact putR_w q (by simp only [Option.getD_some]; omega)
          | rw r =>
            refine rowE_w ?_
            exact putW_w (by simp only [Option.getD_some]; omega) hb.2.2.2.1
  · rw [psPut_dead _ _ _ (dead_of ha)]; simp
theorem psEnd_w {l0 l1 l2 : Int} {N : Nat} {s : PS} (hI : psI l0 l1 l2 N s) : ∀ x ∈ (XV s).2, x.row.length ≤ 4096 := by
  by_cases ha : YD s
  · have hJ := hI.2.2 ha.1 ha.2
    obtain ⟨hd, ph, bd, told, imgs, over, e⟩ := s
    obtain ⟨h1, h2⟩ := ha
    dsimp only at h1 h2
    subst h1 h2
    unfold XV
    rw [if_neg (by simp)]
    dsimp only at hJ ⊢
    cases bd with
    | no => dsimp only; split <;> simp
    | rw r => simp
    | pl r =>
      rcases hJ with ⟨_, q, _⟩ | ⟨_, q, _⟩ | ⟨_, h, hh, hf, hb⟩
      · cases q
      · cases q
      · have hM := hf.2.2
        unfold Xv at hM
        subst hh
        unfold Xm
        exact rowE_w (endR_w hb.2.2.2.2.2 (by simp only [Option.getD_some]; omega))
  · rw [show XV s = (s, []) from if_pos (dead_of ha)]; simp
theorem stF_w (a b d : Int) {bs : List Int} (hb : ∀ x ∈ bs, 0 ≤ x ∧ x ≤ 255) {k : Nat} (h : k ≤ bs.length) : ∀ x ∈ (stF (QP a) (QR b) (QS d) bs k).2, x.row.length ≤ 4096 := by
  have hI := rdF_I a b d bs hb h
  unfold stF
  split
  · exact psPut_w hI
  · exact psEnd_w hI
theorem imStep_px (st : Img × List Img) (x : Evt) : (Xy st x).1.px.length ≤ st.1.px.length + x.row.length ∧ (Xy st x).2.length ≤ st.2.length + 1 := by
  unfold Xy
  repeat' split
  all_goals simp
theorem imFold_px : ∀ (es : List Evt) (st : Img × List Img), (∀ x ∈ es, x.row.length ≤ 4096) → (es.foldl Xy st).1.px.length ≤ st.1.px.length + 4096 * es.length ∧ (es.foldl Xy st).2.length ≤ st.2.length + es.length
  | [], st, _ => by simp
  | x :: es, st, h => by
    have ih := imFold_px es (Xy st x) fun y hy => h y (List.mem_cons_of_mem _ hy)
    have q := imStep_px st x
    have hx := h x (List.mem_cons_self ..)
    rw [List.foldl_cons, List.length_cons]
    omega
def imF (l0 l1 l2 : Int) (bs : List Int) (k : Nat) : Img × List Img := ((rdF l0 l1 l2 bs k).2.map (·.1)).foldl Xy (im0, [])
theorem imF_step (l0 l1 l2 : Int) {bs : List Int} {k : Nat} (h : k ≤ bs.length) : imF l0 l1 l2 bs (k + 1) = (stF l0 l1 l2 bs k).2.foldl Xy (imF l0 l1 l2 bs k) := by
  unfold imF
  rw [rdF_step _ _ _ h]
  simp only
  rw [List.map_append, List.foldl_append, List.map_map, show ((fun x : Evt × Int => x.1) ∘ fun x => (x, (k : Int) + 1)) = id from rfl, List.map_id]
theorem imF_end (l0 l1 l2 : Int) (bs : List Int) : (imF l0 l1 l2 bs (bs.length + 1)).2 = imsO (Y7 l0 l1 l2 true bs).2 := by
  unfold imF
  rw [rdF_end]
  rfl
theorem rdF_zero (l0 l1 l2 : Int) (bs : List Int) : rdF l0 l1 l2 bs 0 = (ps0, []) := by rw [rdF_le _ _ _ (Nat.zero_le _)]; rfl
theorem imF_zero (l0 l1 l2 : Int) (bs : List Int) : imF l0 l1 l2 bs 0 = (im0, []) := by unfold imF; rw [rdF_zero]; rfl
theorem stF_len (l0 l1 l2 : Int) (bs : List Int) (k : Nat) : (stF l0 l1 l2 bs k).2.length ≤ 2 := by
  have hE : ∀ (s : PS) (bd : Bd) (st e : Int) (row : List Int), (Xm s bd st e row).2.length ≤ 2 := fun s bd st e row => by
    unfold Xm XC Xq
    by_cases h1 : row = [] <;> by_cases h2 : st = 1 <;> simp [h1, h2]
  have hH : ∀ (s : PS) (h : HS), (Q8 s h).2.length ≤ 2 := fun s h => by
    unfold Q8
    repeat' split
    all_goals simp
  unfold stF
  split
  · unfold Xf
    split
    · simp
    · unfold Xt
      split
      · split
        · simp
        · exact hH _ _
      · split
        · exact hH _ _
        · unfold psBody
          split
          · simp
          · exact hE _ _ _ _ _
          · exact hE _ _ _ _ _
  · unfold XV
    split
    · simp
    · split
      · exact hE _ _ _ _ _
      · simp
      · split <;> simp
theorem imF_px (a b d : Int) {bs : List Int} (hb : ∀ x ∈ bs, 0 ≤ x ∧ x ≤ 255) : ∀ k, k ≤ bs.length + 1 → (imF (QP a) (QR b) (QS d) bs k).1.px.length ≤ 8192 * k ∧ (imF (QP a) (QR b) (QS d) bs k).2.length ≤ 2 * k
  | 0, _ => by rw [imF_zero]; simp [im0]
  | k + 1, h => by
    have ih := imF_px a b d hb k (by omega)
    have q := imFold_px (stF (QP a) (QR b) (QS d) bs k).2 (imF (QP a) (QR b) (QS d) bs k) (stF_w a b d hb (by omega))
    have q2 := stF_len (QP a) (QR b) (QS d) bs k
    rw [imF_step _ _ _ (by omega)]
    omega

end Go.Proofs.YtggamdlpiejbiaaGreat
namespace Go.Proofs.YtggamdlpiejbiaaGreat
open Go.RowKit Go.Shelf


theorem imStep_1 {st : Img × List Img} {x : Evt} (h : x.k = 1) : Xy st x = (⟨x.c, x.m, x.w, x.h, []⟩, st.2) := if_pos h
theorem imStep_2 {st : Img × List Img} {x : Evt} (h1 : ¬ x.k = 1) (h : x.k = 2) : Xy st x = (⟨st.1.c, st.1.m, st.1.w, st.1.h, st.1.px ++ x.row⟩, st.2) := (if_neg h1).trans (if_pos h)
theorem imStep_3 {st : Img × List Img} {x : Evt} (h1 : ¬ x.k = 1) (h2 : ¬ x.k = 2) (h : x.k = 3) : Xy st x = (st.1, st.2 ++ [st.1]) := (if_neg h1).trans ((if_neg h2).trans (if_pos h))
def pmR (b : Bool) (a : Option Addr) (c : Nat) (px : List Int) : HP := if b = true then QG 92 1 a c px.length (Xp px) else emp
theorem pmR_true {a : Option Addr} {c : Nat} {px : List Int} : pmR true a c px = QG 92 1 a c px.length (Xp px) := rfl
theorem pmR_nil {l F : List HP} (h : Ent l F) : Ent l (pmR true none 0 [] :: F) := Ent.own_nil h
def imR2 (a : Option Addr) (c : Nat) (es : List Img) : HP := rcR 79 5 92 imC Img.px a c es
def mC (x : Img) (a : Option Addr) (c : Nat) : List Value := [.int .i64 x.c, .int .i64 x.m, .int .i64 x.w, .int .i64 x.h, .slice a x.px.length c]
/-- Images that are being told. -/
def tlR (gm go : Nat) (st : Img × List Img) (b : Bool) : HP := exs fun p : (Option Addr × Nat) × (Option Addr × Nat) => [QA gm [.int .i64 st.1.c, .int .i64 st.1.m, .int .i64 st.1.w, .int .i64 st.1.h, .slice p.1.1 st.1.px.length p.1.2] 79, pmR b p.1.1 p.1.2 st.1.px, QA go [.slice p.2.1 st.2.length p.2.2] 59, imR2 p.2.1 p.2.2 st.2]
theorem tlR_cl {gm go : Nat} {st : Img × List Img} {b : Bool} {aM aO : Option Addr} {cM cO : Nat} {F : List HP} : Ent (QA gm [.int .i64 st.1.c, .int .i64 st.1.m, .int .i64 st.1.w, .int .i64 st.1.h, .slice aM st.1.px.length cM] 79 :: pmR b aM cM st.1.px :: QA go [.slice aO st.2.length cO] 59 :: imR2 aO cO st.2 :: F) (tlR gm go st b :: F) := Ent.exs ((aM, cM), (aO, cO)) (Ent.refl _)
theorem tlR_0 {gm go : Nat} {F : List HP} : Ent (QA gm [.int .i64 0, .int .i64 0, .int .i64 0, .int .i64 0, .slice none 0 0] 79 :: QA go [.slice none 0 0] 59 :: F) (tlR gm go (im0, []) false :: F) :=
  Ent.exs ((none, 0), (none, 0)) (Ent.cons (Yy (Ent.cons (Ent.rcNil (Ent.refl _)))))
structure TlX where
  (i : Nat) (aM : Option Addr) (cM : Nat) (aO : Option Addr) (cO : Nat) (b : Bool)

set_option maxHeartbeats 1000000 in
theorem pnTell_spec (gm go : Nat) (aE : Option Addr) (cE : Nat) (evs : List Evt) (st : Img × List Img) (b b' : Bool) (hph0 : phF b evs = some b') (hrow : ∀ x ∈ evs, x.row.length ≤ 4096) (hbd : st.1.px.length + 4096 * evs.length ≤ 10000000000000 ∧ st.2.length + evs.length ≤ 1000000000000) : Fn Tryz.prog 66 #[.slice aE evs.length cE, .pointer (some ⟨gm, 0, none⟩), .pointer (some ⟨go, 0, none⟩)] [evR aE cE evs, tlR gm go st b] (fun v l => v = .tuple #[] ∧ l = [tlR gm go (evs.foldl Xy st) b']) := by
 refine Qk (vs := [.slice aE evs.length cE, .pointer (some ⟨gm, 0, none⟩), .pointer (some ⟨go, 0, none⟩)]) Tryz.func66 rfl Tryz.ntmps66 rfl ?_
 refine Qb (Qa (Qc rfl rfl (QC rfl rfl (Qc rfl rfl (WpL.nil (Wp.block ?_))))))
 refine Wp.exs Take1.here fun lV => ?_
 refine Wp.pur Take1.here fun hlVe => ?_
 refine Wp.exs (Take1.there (Take1.there Take1.here)) fun pq => ?_
 obtain ⟨⟨aM, cM⟩, ⟨aO, cO⟩⟩ := pq
 refine Wp.loopD (σ := TlX) (fun x => x.i ≤ evs.length ∧ phF x.b (evs.drop x.i) = some b') [5, 8, 9, 10, 11, 12, 13, 14, 15, 16, 17, 18, 19, 20, 21, 22, 23, 24, 25, 26, 27, 28, 29, 30, 31, 32, 33, 34, 35, 36, 37, 38, 39, 40] (fun x => [(8, .int .i64 (x.i : Int))]) (fun x => [pmR x.b x.aM x.cM ((evs.take x.i).foldl Xy st).1.px, QG 51 6 aE cE evs.length (lV.flatMap (fun r : Evt × Option Addr × Nat => evC2 r.1 r.2.1 r.2.2)), YO (lV.map fun r => QG 92 1 r.2.1 r.2.2 r.1.row.length (Xp r.1.row)), QA gm [.int .i64 ((evs.take x.i).foldl Xy st).1.c, .int .i64 ((evs.take x.i).foldl Xy st).1.m, .int .i64 ((evs.take x.i).foldl Xy st).1.w, .int .i64 ((evs.take x.i).foldl Xy st).1.h, .slice x.aM ((evs.take x.i).foldl Xy st).1.px.length x.cM] 79, QA go [.slice x.aO ((evs.take x.i).foldl Xy st).2.length x.cO] 59, imR2 x.aO x.cO ((evs.take x.i).foldl Xy st).2]) (fun x => evs.length - x.i) ⟨0, aM, cM, aO, cO, b⟩ ?_ (by repeat (first | exact FrLe.nil | refine FrLe.cons rfl ?_)) ?_ ?_
 ·exact ⟨Nat.zero_le _, hph0⟩
 ·simp only [Qr, List.take_zero, List.foldl_nil]
  exact Take.ent' (by repeat' constructor)
 ·rintro ⟨i, aM, cM, aO, cO, b⟩ ⟨hi, hph⟩
  dsimp only at hi hph ⊢
  refine Qb (Qa (Q7 rfl rfl rfl (WpL.nil (Qb (Ql rfl (fun h1 => ?_) (fun h1 => ?_))))))
  ·have hiE : i < evs.length := by omega
   have hiV : i < lV.length := by rw [← hlVe, List.length_map] at hiE; exact hiE
   have e1 := map_fst hlVe hiV hiE
   have hAV : RdsL [QG 51 6 aE cE evs.length (lV.flatMap (fun r : Evt × Option Addr × Nat => evC2 r.1 r.2.1 r.2.2))] aE (lV.flatMap (fun r : Evt × Option Addr × Nat => evC2 r.1 r.2.1 r.2.2)) := QE
   have hnV : lV.flatMap (fun r : Evt × Option Addr × Nat => evC2 r.1 r.2.1 r.2.2) ≠ [] := fun q => by have := Zf (s := 6) (f := fun r : Evt × Option Addr × Nat => evC2 r.1 r.2.1 r.2.2) (fun _ => rfl) lV i hiV; rw [q] at this; simp [evC2] at this
   have hrc : RdsL [YO (lV.map fun r => QG 92 1 r.2.1 r.2.2 r.1.row.length (Xp r.1.row))] lV[i].2.1 (Xp lV[i].1.row) := ZS (row := Evt.row) (List.getElem_mem hiV)
   rw [e1] at hrc
   have hseg : ((lV.flatMap (fun r : Evt × Option Addr × Nat => evC2 r.1 r.2.1 r.2.2)).drop (i * 6)).take 6 = [.int .i64 evs[i].k, .int .i64 evs[i].c, .int .i64 evs[i].m, .int .i64 evs[i].w, .int .i64 evs[i].h, .slice lV[i].2.1 evs[i].row.length lV[i].2.2] := by rw [Zf (s := 6) (f := fun r : Evt × Option Addr × Nat => evC2 r.1 r.2.1 r.2.2) (fun _ => rfl) lV i hiV]; simp only [evC2, e1]
   have hst : (evs.take (i + 1)).foldl Xy st = Xy ((evs.take i).foldl Xy st) evs[i] := by rw [List.take_succ_eq_append_getElem hiE, List.foldl_append]; rfl
   have hdc : evs.drop i = evs[i] :: evs.drop (i + 1) := List.drop_eq_getElem_cons hiE
   have hri := hrow _ (List.getElem_mem hiE)
   have hpx := imFold_px (evs.take i) st fun x hx => hrow x (List.mem_of_mem_take hx)
   rw [List.length_take] at hpx
   rw [hdc, phF_cons] at hph
   refine Wp.skip (Qb (Wp.block ?_))
   refine Qb (Qa (Zp (s := 6) i rfl rfl rfl hAV (by exact Take.ent' (by repeat' constructor)) rfl (by omega) hnV ?_))
   refine ZU (vs := [.int .i64 evs[i].k, .int .i64 evs[i].c, .int .i64 evs[i].m, .int .i64 evs[i].w, .int .i64 evs[i].h, .slice lV[i].2.1 evs[i].row.length lV[i].2.2]) rfl rfl hAV (by exact Take.ent' (by repeat' constructor)) hnV rfl hseg ?_
   refine YE rfl ?_
   intro g1
   refine XL rfl rfl rfl (by rfl) rfl ?_
   refine WpL.nil (Qb (Qa (Qj (o2 := 0) rfl rfl rfl (Qo rfl rfl (by rfl) ?_))))
   refine WpL.nil (Wp.block ?_)
   refine Qb (Qa (QN rfl rfl rfl (Qe rfl rfl (WpL.nil (Ql rfl (fun h2 => ?_) (fun h2 => ?_))))))
   ·rw [if_pos h2] at hph
    refine Qa (Qj (o2 := 1) rfl rfl rfl ?_)
    refine QI (vs := [_, _]) rfl rfl rfl (by rfl) ?_
    refine Qj (o2 := 3) rfl rfl rfl (Qo rfl rfl (by rfl) ?_)
    refine Qj (o2 := 4) rfl rfl rfl (Qo rfl rfl (by rfl) ?_)
    refine YI rfl rfl ?_
    refine YI rfl rfl ?_
    refine XL rfl rfl rfl (by rfl) rfl ?_
    refine WpL.nil (Qa (QD rfl rfl rfl (Qu (by omega) (by omega)) ?_))
    refine Qc rfl rfl (WpL.nil (Qv ⟨i + 1, none, 0, aO, cO, true⟩ ?_ ?_ (by ((repeat (first | exact Top.refl | refine Top.push rfl ?_)); done)) (by repeat (first | exact FrLe.nil | refine FrLe.cons rfl ?_)) ?_))
    ·exact ⟨by simp only; omega, hph⟩
    ·simp only; omega
    ·dsimp only
     rw [hst, imStep_1 h2]
     exact pmR_nil (Take.ent' (by repeat' constructor))
   ·rw [if_neg h2] at hph
    refine Qb (Qa (QN rfl rfl rfl (Qe rfl rfl (WpL.nil (Ql rfl (fun h3 => ?_) (fun h3 => ?_))))))
    ·rw [if_pos h3] at hph
     obtain rfl : b = true := by cases b <;> simp_all
     rw [if_pos rfl] at hph
     rw [pmR_true]
     refine Qa (Qj (o2 := 2) rfl rfl rfl (Qj (o2 := 4) rfl rfl rfl (Qo rfl rfl (by rfl) ?_)))
     refine Qj (o2 := 5) rfl rfl rfl (Qo rfl rfl (by rfl) ?_)
     refine s_appR (m2 := evs[i].row.length) rfl rfl rfl (by repeat' constructor) hrc (by exact Take.ent' (by repeat' constructor)) (by rw [X1, Nat.mul_one]) (by rfl) (by rfl) (pxs_one _) (by omega) (by omega) ?_
     intro a31 c31
     rw [pxs_app, ← List.length_append]
     refine Qj (o2 := 2) rfl rfl rfl (Qj (o2 := 4) rfl rfl rfl (Q3 rfl rfl rfl (WpL.nil (Qa (QD rfl rfl rfl (Qu (by omega) (by omega)) ?_)))))
     refine Qc rfl rfl (WpL.nil (Qv ⟨i + 1, a31, c31, aO, cO, true⟩ ?_ ?_ (by ((repeat (first | exact Top.refl | refine Top.push rfl ?_)); done)) (by repeat (first | exact FrLe.nil | refine FrLe.cons rfl ?_)) ?_))
     ·exact ⟨by simp only; omega, hph⟩
     ·simp only; omega
     ·dsimp only
      rw [hst, imStep_2 h2 h3]
      exact Take.ent' (by repeat' constructor)
    ·rw [if_neg h3] at hph
     refine Qb (Qa (QN rfl rfl rfl (Qe rfl rfl (WpL.nil (Ql rfl (fun h4 => ?_) (fun h4 => ?_))))))
     ·rw [if_pos h4] at hph
      obtain rfl : b = true := by cases b <;> simp_all
      rw [if_pos rfl] at hph
      rw [pmR_true]
      refine Qa (Qo rfl rfl (by rfl) ?_)
      refine QI (vs := [_, _, _, _, _]) rfl rfl rfl (by rfl) ?_
      refine Vi rfl rfl (by rfl) (by rfl) (by rfl) (by rfl) ?_
      intro g2
      refine s_apR1 (((evs.take i).foldl Xy st).1) rfl rfl rfl (by repeat' constructor) rfl (by rfl) (by rfl) (by rfl) (by rfl) (by omega) (by omega) ?_
      intro a39 c39
      refine Q3 rfl rfl rfl (WpL.nil (Qa (QD rfl rfl rfl (Qu (by omega) (by omega)) ?_)))
      refine Qc rfl rfl (WpL.nil (Qv ⟨i + 1, aM, cM, a39, c39, false⟩ ?_ ?_ (by ((repeat (first | exact Top.refl | refine Top.push rfl ?_)); done)) (by repeat (first | exact FrLe.nil | refine FrLe.cons rfl ?_)) ?_))
      ·exact ⟨by simp only; omega, hph⟩
      ·simp only; omega
      ·dsimp only
       rw [hst, imStep_3 h2 h3 h4]
       exact Yy (Take.ent' (by repeat' constructor))
     ·exfalso
      rw [if_neg h4] at hph
      cases hph
  ·obtain rfl : i = evs.length := by omega
   rw [List.drop_of_length_le (Nat.le_refl _)] at hph
   obtain rfl : b = b' := Option.some.inj hph
   rw [List.take_length]
   refine QM ?_
   apply YK
   ·exact (XZ rfl)
   ·exact ⟨rfl, rfl⟩
   ·exact (Take.ent' (pre := [QA gm _ 79, pmR b aM cM _, QA go _ 59, imR2 aO cO _]) (by repeat' constructor)).trans tlR_cl

end Go.Proofs.YtggamdlpiejbiaaGreat
namespace Go.Proofs.YtggamdlpiejbiaaGreat
open Go.RowKit Go.Shelf

set_option maxHeartbeats 1000000 in
theorem pnAll_spec (A0 : HP) (a0 : Option Addr) (c0 : Nat) (bs : List Int) (hA : RdsL [A0] a0 (Xr bs)) (hbs : ∀ x ∈ bs, 0 ≤ x ∧ x ≤ 255) (_hc0 : bs.length ≤ c0) (hbl : bs.length ≤ 100000000) (a b d : Int) : Fn Tryz.prog 28 #[.slice a0 bs.length c0, .agg #[.int .i64 a, .int .i64 b, .int .i64 d]] [A0] (fun v l => ∃ aO cO, v = .tuple #[.slice aO (imsO (Y7 (QP a) (QR b) (QS d) true bs).2).length cO, .int .i64 (if (Y7 (QP a) (QR b) (QS d) true bs).1.e = 0 then 0 else (Y7 (QP a) (QR b) (QS d) true bs).1.e), .int .i64 (if (Y7 (QP a) (QR b) (QS d) true bs).1.e = 0 then 0 else (Y7 (QP a) (QR b) (QS d) true bs).1.told)] ∧ l = [imR2 aO cO (imsO (Y7 (QP a) (QR b) (QS d) true bs).2), A0]) := by
 refine Qk (vs := [.slice a0 bs.length c0, .agg #[.int .i64 a, .int .i64 b, .int .i64 d]]) Tryz.func28 rfl Tryz.ntmps28 rfl (Qb (Qa (Q9 rfl rfl rfl ?_)))
 intro gB
 refine Qe rfl rfl (Qe rfl rfl (Qe rfl rfl (WpL.nil (Qb (Qa ?_)))))
 refine QI (vs := [_, _, _]) rfl rfl rfl (by rfl) ?_
 refine Qh rfl rfl (by repeat' constructor) (pnNew_spec a b d) ?_
 rintro _ _ ⟨g, rfl, rfl⟩
 simp only [Qr]
 refine Qe rfl rfl (WpL.nil (Qb (Qa (YE rfl ?_))))
 intro go
 refine WpL.nil (Qb (Qa (YE rfl ?_)))
 intro gm
 refine WpL.nil (Qb (Qa (s_mkf rfl (fun a hh => X6 hh _ _ rfl) ?_)))
 refine Qe rfl rfl (WpL.nil (Qb (Qb (Qa (Qc rfl rfl (QC rfl rfl (Qc rfl rfl (WpL.nil (Wp.block ?_)))))))))
 refine Wp.loopD (σ := Nat) (fun k => k ≤ bs.length) [12, 20, 21, 22, 23, 24, 25, 26, 27, 28, 29] (fun k => [(20, .int .i64 (k : Int))]) (fun k => [psR g a b d (rdF (QP a) (QR b) (QS d) bs k).1, tlR gm go (imF (QP a) (QR b) (QS d) bs k) (Zs (rdF (QP a) (QR b) (QS d) bs k).1), A0, QA gB [.int .i64 a, .int .i64 b, .int .i64 d] 24]) (fun k => bs.length - k) 0 ?_ (by repeat (first | exact FrLe.nil | refine FrLe.cons rfl ?_)) ?_ ?_
 ·exact Nat.zero_le _
 ·rw [rdF_zero, imF_zero]
  exact Ent.trans (m := [_, _, psR g a b d ps0, A0, QA gB [.int .i64 a, .int .i64 b, .int .i64 d] 24]) (Take.ent' (by repeat' constructor)) (tlR_0.trans (Take.ent' (by repeat' constructor)))
 ·intro k hk
  refine Qb (Qa (Q7 rfl rfl rfl (WpL.nil (Qb (Ql rfl (fun h1 => ?_) (fun h1 => ?_))))))
  ·have hlt : k < bs.length := by omega
   have hcb := hbs _ (List.getElem_mem hlt)
   have hI := rdF_I a b d bs hbs hk
   refine Wp.skip (Qb (Wp.block ?_))
   refine Qb (Qa (Q4 k rfl rfl rfl hA (by exact Take.ent' (by repeat' constructor)) rfl (by omega) (by rw [Xa]; exact hlt) ?_))
   refine Q5 rfl rfl hA (by exact Take.ent' (by repeat' constructor)) (Zn bs hlt) ?_
   refine Qe rfl rfl (WpL.nil (Qa (Qc rfl rfl (Qc rfl rfl (Qc rfl rfl (Qh rfl rfl (by repeat' constructor) (psPut_rep g a b d _ _ (by omega) hI _ (by omega) (by omega)) ?_))))))
   rintro _ _ rfl
   simp only [Qr]
   rw [← stF_lt (QP a) (QR b) (QS d) hlt]
   refine WpL.ent (Take.ent' (pre := [evO _ (stF (QP a) (QR b) (QS d) bs k).2, psR g a b d (stF (QP a) (QR b) (QS d) bs k).1, tlR gm go (imF (QP a) (QR b) (QS d) bs k) (Zs (rdF (QP a) (QR b) (QS d) bs k).1), A0, QA gB [.int .i64 a, .int .i64 b, .int .i64 d] 24]) (by repeat' constructor)) ?_
   refine WpL.ent (evO_rc (stF_ok _ _ _ _ _)) (WpL.exs Take1.here fun pv => ?_)
   refine WpL.pur Take1.here fun hv => ?_
   obtain ⟨aE, cE⟩ := pv
   dsimp only at hv
   subst hv
   have hpx := imF_px a b d hbs k (by omega)
   have hl2 := stF_len (QP a) (QR b) (QS d) bs k
   refine X3 (u := []) (c := [.pointer (some ⟨gm, 0, none⟩), .pointer (some ⟨go, 0, none⟩)]) rfl rfl rfl rfl (by repeat' constructor) (pnTell_spec gm go aE cE (stF (QP a) (QR b) (QS d) bs k).2 (imF (QP a) (QR b) (QS d) bs k) _ _ (stF_ph _ _ _ _ _) (stF_w a b d hbs (by omega)) ⟨by omega, by omega⟩) ?_
   rintro _ _ ⟨rfl, rfl⟩
   simp only [Qr]
   refine WpL.nil (Qa (QD rfl rfl rfl (Qu (by omega) (by omega)) ?_))
   refine Qc rfl rfl (WpL.nil (Qv (k + 1) ?_ ?_ (by ((repeat (first | exact Top.refl | refine Top.push rfl ?_)); done)) (by repeat (first | exact FrLe.nil | refine FrLe.cons rfl ?_)) ?_))
   ·omega
   ·omega
   ·rw [rdF_step _ _ _ hk, imF_step _ _ _ hk]
    exact Take.ent' (by repeat' constructor)
  ·obtain rfl : k = bs.length := by omega
   have hI := rdF_I a b d bs hbs hk
   refine QM (Qb (Qa (Qc rfl rfl (Qc rfl rfl (Qh rfl rfl (by repeat' constructor) (psEnd_rep g a b d _ _ (by omega) hI) ?_)))))
   rintro _ _ rfl
   simp only [Qr]
   rw [← stF_ge (QP a) (QR b) (QS d) (Nat.lt_irrefl _)]
   refine WpL.ent (Take.ent' (pre := [evO _ (stF (QP a) (QR b) (QS d) bs bs.length).2, psR g a b d (stF (QP a) (QR b) (QS d) bs bs.length).1, tlR gm go (imF (QP a) (QR b) (QS d) bs bs.length) (Zs (rdF (QP a) (QR b) (QS d) bs bs.length).1), A0, QA gB [.int .i64 a, .int .i64 b, .int .i64 d] 24]) (by repeat' constructor)) ?_
   refine WpL.ent (evO_rc (stF_ok _ _ _ _ _)) (WpL.exs Take1.here fun pv => ?_)
   refine WpL.pur Take1.here fun hv => ?_
   obtain ⟨aE, cE⟩ := pv
   dsimp only at hv
   subst hv
   have hpx := imF_px a b d hbs bs.length (by omega)
   have hl2 := stF_len (QP a) (QR b) (QS d) bs bs.length
   refine X3 (u := []) (c := [.pointer (some ⟨gm, 0, none⟩), .pointer (some ⟨go, 0, none⟩)]) rfl rfl rfl rfl (by repeat' constructor) (pnTell_spec gm go aE cE (stF (QP a) (QR b) (QS d) bs bs.length).2 (imF (QP a) (QR b) (QS d) bs bs.length) _ _ (stF_ph _ _ _ _ _) (stF_w a b d hbs (by omega)) ⟨by omega, by omega⟩) ?_
   rintro _ _ ⟨rfl, rfl⟩
   simp only [Qr]
   refine WpL.nil (Qb (Qa (Qc rfl rfl (Qh rfl rfl (by repeat' constructor) (psError_rep g a b d _) ?_))))
   rintro _ _ ⟨rfl, rfl⟩
   simp only [Qr]
   refine Qc rfl rfl (QH rfl rfl rfl (QH rfl rfl rfl (Qe rfl rfl (Qe rfl rfl (WpL.nil (Qb (Qa ?_)))))))
   rw [← imF_step _ _ _ (Nat.le_refl _)]
   refine WpL.exs (Take1.there Take1.here) fun pq => ?_
   obtain ⟨⟨aM, cM⟩, ⟨aO, cO⟩⟩ := pq
   simp only [Qr]
   rw [imF_end]
   have hst : (stF (QP a) (QR b) (QS d) bs bs.length).1 = (Y7 (QP a) (QR b) (QS d) true bs).1 := congrArg (·.1) ((rdF_step (QP a) (QR b) (QS d) (Nat.le_refl bs.length)).symm.trans (rdF_end (QP a) (QR b) (QS d) bs))
   rw [hst]
   refine Qo rfl rfl (by rfl) ?_
   refine Qc rfl rfl (Qc rfl rfl (Qe rfl rfl (Qe rfl rfl (Qe rfl rfl (WpL.nil (Qi ?_))))))
   apply RetQ.mk
   ·exact (Res.three rfl rfl rfl rfl)
   ·exact ⟨aO, cO, rfl, rfl⟩
   ·exact Take.ent' (by repeat' constructor)

end Go.Proofs.YtggamdlpiejbiaaGreat
namespace Go.Proofs.YtggamdlpiejbiaaGreat
open Go.RowKit Go.Shelf

instance : FOffA Tryz.prog 79 0 0 := ⟨fun _ _ => by kernel_rfl⟩
instance : FOffA Tryz.prog 79 1 2 := ⟨fun _ _ => by kernel_rfl⟩
instance : FOffA Tryz.prog 77 0 0 := ⟨fun _ _ => by kernel_rfl⟩
instance : FOffA Tryz.prog 77 1 1 := ⟨fun _ _ => by kernel_rfl⟩
instance : FOffA Tryz.prog 77 2 2 := ⟨fun _ _ => by kernel_rfl⟩

abbrev ImL := List (Img × Option Addr × Nat)
def mCs (La : ImL) : List Value := La.flatMap fun r => mC r.1 r.2.1 r.2.2
theorem mCs_seg (La : ImL) {k : Nat} (h : k < La.length) : ((mCs La).drop (k * 5)).take 5 = [.int .i64 La[k].1.c, .int .i64 La[k].1.m, .int .i64 La[k].1.w, .int .i64 La[k].1.h, .slice La[k].2.1 La[k].1.px.length La[k].2.2] := Zf (s := 5) (f := fun r : Img × Option Addr × Nat => mC r.1 r.2.1 r.2.2) (fun _ => rfl) La k h
theorem mCs_ne (La : ImL) {k : Nat} (h : k < La.length) : mCs La ≠ [] := fun q => by have := mCs_seg La h; rw [q] at this; simp at this
theorem mCs_at (La : ImL) {k j : Nat} (h : k < La.length) (hj : j < 5) : (mCs La)[k * 5 + j]? = [Value.int .i64 La[k].1.c, .int .i64 La[k].1.m, .int .i64 La[k].1.w, .int .i64 La[k].1.h, .slice La[k].2.1 La[k].1.px.length La[k].2.2][j]? := by
  rw [← mCs_seg La h, List.getElem?_take, if_pos hj, List.getElem?_drop]
theorem mCs_two (La : ImL) {k : Nat} (h : k < La.length) : ((mCs La).drop (k * 5 + 0)).take 2 = [.int .i64 La[k].1.c, .int .i64 La[k].1.m] := by
  have q := congrArg (List.take 2) (mCs_seg La h)
  rw [List.take_take] at q
  exact q
theorem mCs_snoc (La : ImL) {k : Nat} (h : k < La.length) : mCs (La.take (k + 1)) = mCs (La.take k) ++ [.int .i64 La[k].1.c, .int .i64 La[k].1.m, .int .i64 La[k].1.w, .int .i64 La[k].1.h, .slice La[k].2.1 La[k].1.px.length La[k].2.2] := by
  unfold mCs; rw [List.take_succ_eq_append_getElem h, List.flatMap_append]; simp [mC]
structure AsX where
  (k : Nat) (a : Option Addr) (c : Nat)

theorem las_spec (As : List HP) (La : ImL) (aO : Option Addr) (cO : Nat) (hA : RdsL As aO (mCs La)) (hl : La.length ≤ 1000000000) : Fn Tryz.prog 30 #[.slice aO La.length cO] As (fun v l => ∃ a' c', v = .slice a' La.length c' ∧ l = QG 71 5 a' c' La.length (mCs La) :: As) := by
 refine Qk (vs := [.slice aO La.length cO]) Tryz.func30 rfl Tryz.ntmps30 rfl (Qb (Qa (Qe rfl rfl (WpL.nil (Qb (Qa (Qe rfl rfl (WpL.nil (Qb (Qb (Qa (Qe rfl rfl ?_))))))))))))
 refine WpL.nil (Wp.block ?_)
 refine Wp.loopD (σ := AsX) (fun x => x.k ≤ La.length) [3, 4, 5, 6, 7, 8, 9, 10, 11, 12, 13, 14, 15, 16, 17, 18, 19, 20, 21, 22, 23, 24, 25, 26, 27, 28, 29, 30, 31, 32, 33, 34, 35, 36, 37, 38] (fun x => [(4, .int .i64 (x.k : Int)), (3, .slice x.a x.k x.c)]) (fun x => QG 71 5 x.a x.c x.k (mCs (La.take x.k)) :: As) (fun x => La.length - x.k) ⟨0, none, 0⟩ ?_ (by repeat (first | exact FrLe.nil | refine FrLe.cons rfl ?_)) ?_ ?_
 ·exact Nat.zero_le _
 ·exact Ent.own_nil (Ent.refl _)
 ·rintro ⟨k, a1, c1⟩ hk
  dsimp only at hk ⊢
  refine Qb (Qb (Qa (Qc rfl rfl (Qc rfl rfl (QC rfl rfl (Q7 rfl rfl rfl (WpL.nil (Ql rfl (fun h1 => ?_) (fun h1 => ?_)))))))))
  ·have hk1 : k < La.length := by omega
   have hne := mCs_ne La hk1
   refine Wp.skip (Qb (Wp.block ?_))
   apply Wp.drawEN (fB := []) mixed 28 [11, 12, 13, 14, 15, 16, 17, 18, 19, 20, 21, 22, 23, 24, 25, 26, 27, 28, 29, 30, 31, 32, 33, 34, 35, 36, 37, 38] [(26, false), (0, false)] (by kernel_rfl) (by kernel_rfl) (by kernel_rfl) (by kernel_rfl)
   apply Xk [⟨0, 11, _, [], true⟩, ⟨1, 12, _, [], false⟩, ⟨2, 13, _, [], false⟩, ⟨3, 14, _, [1, 2], false⟩, ⟨4, 15, _, [3], false⟩, ⟨5, 16, _, [4], false⟩, ⟨6, 17, _, [], false⟩, ⟨7, 18, _, [], false⟩, ⟨8, 19, _, [6, 7], false⟩, ⟨9, 20, _, [8], false⟩, ⟨10, 21, _, [9], false⟩, ⟨11, 22, _, [10], false⟩, ⟨12, 23, _, [], false⟩, ⟨13, 24, _, [], false⟩, ⟨14, 25, _, [12, 13], false⟩, ⟨15, 26, _, [14], false⟩, ⟨16, 27, _, [15], false⟩, ⟨17, 28, _, [16], false⟩, ⟨18, 29, _, [], false⟩, ⟨19, 30, _, [], false⟩, ⟨20, 31, _, [18, 19], false⟩, ⟨21, 32, _, [20], false⟩, ⟨22, 33, _, [21], false⟩, ⟨23, 34, _, [22], false⟩, ⟨24, 35, _, [11, 17, 23], false⟩, ⟨25, 36, _, [5, 24], false⟩] [] [1, 2, 3, 4, 5, 6, 7, 8, 9, 10, 11, 12, 13, 14, 15, 16, 17, 18, 19, 20, 21, 22, 23, 24, 25] [38, 11] (.inl ⟨_, .nil⟩) rfl rfl rfl (by kernel_rfl) rfl rfl rfl
   ·refine XQ rfl rfl rfl rfl ?_ ?_
    ·exact Qc rfl rfl (Qm rfl)
    refine AllF.cons rfl rfl rfl rfl ?_ ?_
    ·exact Qc rfl rfl (Qm rfl)
    refine AllF.cons rfl rfl rfl rfl ?_ ?_
    ·exact Qc rfl rfl (Qm rfl)
    refine AllF.cons rfl rfl rfl rfl ?_ ?_
    ·refine Zp (s := 5) k rfl rfl rfl hA (by (repeat (first | exact Ent.refl _ | refine Ent.drop ?_))) rfl (by omega) hne ?_
     exact Qm rfl
    refine AllF.cons rfl rfl rfl rfl ?_ ?_
    ·refine ZF (k * 5 + 0) rfl rfl hA (by (repeat (first | exact Ent.refl _ | refine Ent.drop ?_))) hne rfl ?_
     exact Qm rfl
    refine AllF.cons rfl rfl rfl rfl ?_ ?_
    ·refine ZU (vs := [.int .i64 La[k].1.c, .int .i64 La[k].1.m]) rfl rfl hA (by (repeat (first | exact Ent.refl _ | refine Ent.drop ?_))) hne rfl (mCs_two La hk1) ?_
     exact Qm rfl
    refine AllF.cons rfl rfl rfl rfl ?_ ?_
    ·exact Qc rfl rfl (Qm rfl)
    refine AllF.cons rfl rfl rfl rfl ?_ ?_
    ·exact Qc rfl rfl (Qm rfl)
    refine AllF.cons rfl rfl rfl rfl ?_ ?_
    ·refine Zp (s := 5) k rfl rfl rfl hA (by (repeat (first | exact Ent.refl _ | refine Ent.drop ?_))) rfl (by omega) hne ?_
     exact Qm rfl
    refine AllF.cons rfl rfl rfl rfl ?_ ?_
    ·refine ZF (k * 5 + 2) rfl rfl hA (by (repeat (first | exact Ent.refl _ | refine Ent.drop ?_))) hne rfl ?_
     exact Qm rfl
    refine AllF.cons rfl rfl rfl rfl ?_ ?_
    ·refine ZF (k * 5 + 2) rfl rfl hA (by (repeat (first | exact Ent.refl _ | refine Ent.drop ?_))) hne rfl ?_
     exact Qm rfl
    refine AllF.cons rfl rfl rfl rfl ?_ ?_
    ·refine Q5 rfl rfl hA (by (repeat (first | exact Ent.refl _ | refine Ent.drop ?_))) (mCs_at La hk1 (j := 2) (by decide)) ?_
     exact Qm rfl
    refine AllF.cons rfl rfl rfl rfl ?_ ?_
    ·exact Qc rfl rfl (Qm rfl)
    refine AllF.cons rfl rfl rfl rfl ?_ ?_
    ·exact Qc rfl rfl (Qm rfl)
    refine AllF.cons rfl rfl rfl rfl ?_ ?_
    ·refine Zp (s := 5) k rfl rfl rfl hA (by (repeat (first | exact Ent.refl _ | refine Ent.drop ?_))) rfl (by omega) hne ?_
     exact Qm rfl
    refine AllF.cons rfl rfl rfl rfl ?_ ?_
    ·refine ZF (k * 5 + 2) rfl rfl hA (by (repeat (first | exact Ent.refl _ | refine Ent.drop ?_))) hne rfl ?_
     exact Qm rfl
    refine AllF.cons rfl rfl rfl rfl ?_ ?_
    ·refine ZF (k * 5 + 3) rfl rfl hA (by (repeat (first | exact Ent.refl _ | refine Ent.drop ?_))) hne rfl ?_
     exact Qm rfl
    refine AllF.cons rfl rfl rfl rfl ?_ ?_
    ·refine Q5 rfl rfl hA (by (repeat (first | exact Ent.refl _ | refine Ent.drop ?_))) (mCs_at La hk1 (j := 3) (by decide)) ?_
     exact Qm rfl
    refine AllF.cons rfl rfl rfl rfl ?_ ?_
    ·exact Qc rfl rfl (Qm rfl)
    refine AllF.cons rfl rfl rfl rfl ?_ ?_
    ·exact Qc rfl rfl (Qm rfl)
    refine AllF.cons rfl rfl rfl rfl ?_ ?_
    ·refine Zp (s := 5) k rfl rfl rfl hA (by (repeat (first | exact Ent.refl _ | refine Ent.drop ?_))) rfl (by omega) hne ?_
     exact Qm rfl
    refine AllF.cons rfl rfl rfl rfl ?_ ?_
    ·refine ZF (k * 5 + 2) rfl rfl hA (by (repeat (first | exact Ent.refl _ | refine Ent.drop ?_))) hne rfl ?_
     exact Qm rfl
    refine AllF.cons rfl rfl rfl rfl ?_ ?_
    ·refine ZF (k * 5 + 4) rfl rfl hA (by (repeat (first | exact Ent.refl _ | refine Ent.drop ?_))) hne rfl ?_
     exact Qm rfl
    refine AllF.cons rfl rfl rfl rfl ?_ ?_
    ·refine Q5 rfl rfl hA (by (repeat (first | exact Ent.refl _ | refine Ent.drop ?_))) (mCs_at La hk1 (j := 4) (by decide)) ?_
     exact Qm rfl
    refine AllF.cons rfl rfl rfl rfl ?_ ?_
    ·refine YI rfl rfl ?_
     exact Qm rfl
    refine AllF.cons rfl rfl rfl rfl ?_ ?_
    ·refine YI rfl rfl ?_
     exact Qm rfl
    exact AllF.nil
   ·refine Vi rfl rfl (by rfl) (by rfl) (by rfl) (by rfl) ?_
    intro g1
    refine WpL.nil ⟨rfl, rfl, ?_⟩
    apply Xk [] [0] [0] [] (.inl ⟨_, .nil⟩) rfl rfl rfl (by kernel_rfl) rfl rfl rfl
    ·exact AllF.nil
    ·refine XA rfl rfl rfl (by repeat' constructor) (by rfl) (by rfl) (by rfl) (by rfl) (by omega) (by omega) ?_
     intro a38 c38
     refine WpL.nil ⟨rfl, rfl, ?_⟩
     apply GoR.nil [] (.inr rfl) rfl rfl
     ·exact AllF.nil
     ·show WpL _ _ _ _ _ _ _ _
      refine Qe rfl rfl (WpL.nil (Qa (Qc rfl rfl (QD rfl rfl rfl (Qu (by omega) (by omega)) ?_))))
      refine Qe rfl rfl (WpL.nil (Qv ⟨k + 1, a38, c38⟩ ?_ ?_ (by ((repeat (first | exact Top.refl | refine Top.push rfl ?_)); done)) (by repeat (first | exact FrLe.nil | refine FrLe.cons rfl ?_)) ?_))
      ·simp only; omega
      ·simp only; omega
      ·dsimp only
       rw [mCs_snoc La hk1]
       exact Ent.refl _
  ·obtain rfl : k = La.length := by omega
   rw [List.take_length]
   refine QM (Qb (Qa (Qc rfl rfl (Qe rfl rfl (WpL.nil (Qi ?_))))))
   apply RetQ.mk
   ·exact (Res.one rfl rfl)
   ·exact ⟨a1, c1, rfl, rfl⟩
   ·exact Ent.refl _

end Go.Proofs.YtggamdlpiejbiaaGreat
