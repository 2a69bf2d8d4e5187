/- Walks and plain laws, a part of the proof of ImageKinds: every input that the law's guards let in, no condition beside. -/
import Derived.ArgAppend
import Derived.Test.YtggamdlpiejbiaaGreatM19
namespace Go.Proofs.YtggamdlpiejbiaaGreat
open Go.RowKit Go.Shelf
/-- The row of a text that became bytes. -/
def cvR (e g c : Nat) (xs : List Value) : HP where
  p w S := (∀ b, S b ↔ b = g) ∧ ∃ cur : Array Value, w.heap[g]? = some (.cells cur e (cur.size, cur.size + 1)) ∧ cur.size = c ∧ xs.length ≤ c ∧ cur.toList.take xs.length = xs
  loc := fun ⟨hs, cur, h, r⟩ _ hb => ⟨hs, cur, (hb g ((hs g).2 rfl)).trans h, r⟩
  lt := fun ⟨hs, cur, h, _⟩ b hb => by rw [(hs b).1 hb]; exact (Array.getElem?_eq_some_iff.1 h).1
theorem setCells_chg (b : Nat) : ∀ (vs : List Value) (o : Nat) (w : World), (w.setCells b o vs).os = w.os ∧ (w.setCells b o vs).tape = w.tape ∧ (w.setCells b o vs).output = w.output ∧ (w.setCells b o vs).heap.size = w.heap.size ∧ ∀ k, k ≠ b → (w.setCells b o vs).heap[k]? = w.heap[k]?
  | [], _, _ => ⟨rfl, rfl, rfl, rfl, fun _ _ => rfl⟩
  | v :: r, o, w => by
    obtain ⟨h1, h2, h3, h4, h5⟩ := setCells_chg b r (o + 1) (w.setCell ⟨b, o, none⟩ v)
    have e : ∀ k, k ≠ b → (w.setCell ⟨b, o, none⟩ v).heap[k]? = w.heap[k]? := fun k hk => by
      simp [World.setCell, Array.getElem?_modify, Ne.symm hk]
    refine ⟨h1.trans ?_, h2.trans ?_, h3.trans ?_, h4.trans ?_, fun k hk => (h5 k hk).trans (e k hk)⟩
    all_goals simp [World.setCell]
section
variable {P : Program} {n : Cx} {D : List Deferred} {ops : Array Oper} {rest : List Oper} {Q : Post} {fr : Fr} {l : List HP} {ty : Nat} {pos : String} {aft : Array Edge}
theorem out_bytesC {w : World} {U : Nat → Prop} (h : Sat w l U) (e : Nat) (s : ByteArray) : Out (cvR e w.heap.size (Lib.bytesCells w e s).size (Xa (QP s)) :: l) U w (Lib.bytesWorld w e s) := by
  have hb := bytes_below w e s
  have h2 : Sat (Lib.bytesWorld w e s) l (fun b => U b ∧ b < w.heap.size) := h.inside.keep hb.size fun b _ hlt => hb.block b hlt
  refine ⟨⟨fun b => b = w.heap.size, ⟨fun _ => Iff.rfl, _, Lib.bytesWorld_at_new w e s, rfl, ?_, ?_⟩, fun b hb => .inr (Nat.le_of_eq hb.symm), h2.mono fun b hb => ⟨.inl hb.1, fun e => ?_⟩⟩, .of_below hb⟩
  · rw [QV, Xo]; simp [Lib.bytesCells]
  · rw [QV, Xo]
    apply List.ext_getElem?
    intro j
    by_cases hj : j < s.size
    · rw [List.getElem?_take, if_pos hj, Yu _ (by rw [Xo]; exact hj), bsOf_at hj]
      simp only [Lib.bytesCells, Array.toList_append, Array.toList_map]
      rw [List.getElem?_append_left (by simpa using hj), List.getElem?_map]
      have e1 : s.data.toList[j]? = some s[j] := by rw [List.getElem?_eq_getElem (by simpa using hj)]; rfl
      rw [e1]; rfl
    · rw [List.getElem?_take, if_neg hj, List.getElem?_eq_none (by rw [QV, Xo]; omega)]
  · rw [e] at hb; exact absurd hb.2 (Nat.lt_irrefl _)
theorem s_t2bc {d T1 T2 e : Nat} {x : Operand} {s : ByteArray} (hd : Nat.blt d n = true) (h1 : P.underlying T1 = some .string) (h2 : P.underlying T2 = some (.slice e)) (h3 : P.underlying e = some (.int .u8)) (hx : ev fr x = some (.string s))
    (k : ∀ g c, WpL P n D ops rest Q ((d, .slice (some ⟨g, 0, none⟩) (QP s).length c) :: fr) (cvR e g c (Xa (QP s)) :: l)) : WpL P n D ops (⟨some d, .convert T1 T2 x, ty, pos, aft, none⟩ :: rest) Q fr l :=
  Xs hd (σ := Nat × Nat) (fun q => .slice (some ⟨q.1, 0, none⟩) (QP s).length q.2) (fun q => cvR e q.1 q.2 (Xa (QP s)) :: l) (fun a w U hh hs => ⟨(w.heap.size, (Lib.bytesCells w e s).size), _, by
    have hg : (Lib.bytesCells w e s).size = grownCap w s.size 0 e := by simp [Lib.bytesCells]; have := grownCap_ge w s.size 0 e; omega
    rw [Xo, hg]; simp [execOp, hh.ev hx, Lib.run_convert_string_bytes w T1 T2 e s h1 h2 h3], out_bytesC hs e s⟩) fun q => k q.1 q.2
theorem cvR_cells {w : World} {S : Nat → Prop} {e g c : Nat} {xs : List Value} (h : (cvR e g c xs).p w S) (j : Nat) (u : Value) (hu : xs[j]? = some u) : w.cell? ⟨g, j, none⟩ = some u := by
  obtain ⟨_, cur, hg, _, hl, ht⟩ := h
  rw [cell_of_row w g j cur e _ hg]
  rw [← ht, List.getElem?_take] at hu
  split at hu
  · simpa using hu
  · cases hu
/-- append(s, t...), s a text's bytes. -/
theorem s_appC {d t e by_ : Nat} {z : Value} {x y : Operand} {a2 : Option Addr} {g c m c2 m2 : Nat} {xs ys : List Value} {As F : List HP} (hd : Nat.blt d n = true) [ht : SlT P t e 1 by_ z] (hx : ev fr x = some (.slice (some ⟨g, 0, none⟩) m c)) (hy : ev fr y = some (.slice a2 m2 c2))
    (htk : Take l [cvR e g c xs] F) (hA : RdsL As a2 ys) (he : Ent F As) (hlx : xs.length = m) (hl : ys.length = m2) (hz : z.cells.size = 1) (h1 : ∀ u ∈ ys, u.oneCell' = true) (hb : (m + m2) * by_ ≤ 140737488355328) (hm : m + m2 ≤ 140737488355328)
    (k : ∀ g' c', WpL P n D ops rest Q ((d, .slice (some ⟨g', 0, none⟩) (m + m2) c') :: fr) (rdo g' (xs ++ ys) :: F)) : WpL P n D ops (⟨some d, .call ⟨.builtin .append, #[x, y], #[t, t]⟩, ty, pos, aft, none⟩ :: rest) Q fr l := by
  refine Xs (σ := Nat × Nat) hd (fun p => .slice (some ⟨p.1, 0, none⟩) (m + m2) p.2) (fun p => rdo p.1 (xs ++ ys) :: F) (fun A w U hh hs' => ?_) (fun p => k p.1 p.2)
  have h2 := htk.ent w U hs'
  obtain ⟨S, hp, hSU, hF⟩ := id h2
  obtain ⟨hS, cur, hg, hc, hlc, htake⟩ := id hp
  obtain ⟨i0, hi, hz0, hz1, hz2⟩ := info_parts ht.hi
  have hRA := hA w _ (he w _ hF)
  have hgl : g < w.heap.size := (Array.getElem?_eq_some_iff.1 hg).1
  cases a2 with
  | none =>
    have hy0 : ys = [] := by
      cases ys with
      | nil => rfl
      | cons q qs => exact absurd (hRA.1 (by simp)) (by simp)
    subst hy0
    have hm0 : m2 = 0 := hl.symm
    subst hm0
    refine ⟨(g, c), w, ?_, ⟨⟨S, ⟨hS, hgl, fun j u hu => cvR_cells hp j u (by simpa using hu)⟩, fun b hb => .inl (hSU b hb), hF.mono fun b hb => ⟨.inl hb.1, hb.2⟩⟩, .refl _ _⟩⟩
    have hle : m ≤ c := by omega
    simp [execOp, resolve, invoke, builtin, hh.ev hx, hh.ev hy, Builtin.append_, run_underlying ht.hu, sizeOf, typeInfo, hi, Builtin.lenOf, hle, Builtin.firstCells, storeCells]
  | some ad =>
    have hnew : ∀ j u, ys[j]? = some u → w.cell? (ad.add j) = some u := fun j u hu => hRA.2 ad rfl j u hu
    by_cases hroom : m + m2 ≤ c
    · have hcell : ∀ j, j < ys.length → (w.cell? ⟨g, 0 + m * i0.size + j, none⟩).isSome = true := fun j hj => by
        rw [cell_of_row w g _ cur e _ hg, hz1]
        simp; omega
      have hfr : ∀ j, j < ys.length → w.frozen? ⟨g, 0 + m * i0.size + j, none⟩ = false := fun j hj => by
        unfold World.frozen?
        simp only [hg, hz1]
        simp; omega
      have hr := run_append_room_cells (P := P) w t ty e i0 ht.hu hi g 0 m c ad m2 c2 ys (by rw [hz1, hl]; omega) hnew h1 hroom hcell hfr
      have hch := setCells_chg g ys (0 + m * i0.size) w
      have hm1 : 0 + m * i0.size = m := by rw [hz1]; omega
      rw [hm1] at hr hch hcell
      refine ⟨(g, c), w.setCells g m ys, by simp [execOp, resolve, invoke, builtin, hh.ev hx, hh.ev hy, hr], ⟨S, ⟨hS, by rw [hch.2.2.2.1]; exact hgl, fun j u hu => ?_⟩, fun b hb => .inl (hSU b hb), ?_⟩, ⟨hch.1, hch.2.1, hch.2.2.1, by rw [hch.2.2.2.1]; exact Nat.le_refl _, fun b _ hnb => hch.2.2.2.2 b fun e => hnb (hSU b ((hS b).2 e))⟩⟩
      · by_cases hj : j < xs.length
        · rw [World.cell?_setCells_out g ys m w ⟨g, j, none⟩ (fun _ _ => .inl (by simp only; omega))]
          rw [List.getElem?_append_left hj] at hu
          exact cvR_cells hp j u hu
        · rw [List.getElem?_append_right (by omega)] at hu
          obtain ⟨hj2, hu2⟩ := List.getElem?_eq_some_iff.1 hu
          have := World.cell?_setCells_in g ys m w hcell (j - xs.length) hj2
          rw [show m + (j - xs.length) = j by omega, hu2] at this
          exact this
      · have hk : Sat (w.setCells g m ys) F (fun b => (U b ∧ ¬ S b) ∧ b < w.heap.size) := hF.inside.keep (by rw [hch.2.2.2.1]; exact Nat.le_refl _) fun b hb _ => hch.2.2.2.2 b fun e => hb.1.2 ((hS b).2 e)
        exact hk.mono fun b hb => ⟨.inl hb.1.1, hb.1.2⟩
    · obtain ⟨v', w', hr, hown, hgrown⟩ := run_append_arg_grows (P := P) w t ty e i0 z 1 by_ ht.hu hi hz0 hz1 hz2 hz (by decide) ⟨g, 0, none⟩ m c xs (by omega) (fun j u hu => by rw [Y1, Nat.zero_add]; exact cvR_cells hp j u hu) ad m2 c2 ys (by omega) hnew (by omega) (by unfold maxLen; omega) hb
      rcases hown.2 with ⟨_, h0⟩ | ⟨g', cap, cur', rfl, hg0, hg', hcap, hmx, hcs, htk'⟩
      · omega
      · have hblk : ∀ b, b < w.heap.size → w'.heap[b]? = w.heap[b]? := fun b hb => hgrown.block b hb (by simp)
        refine ⟨(g', cap), w', by simp [execOp, resolve, invoke, builtin, hh.ev hx, hh.ev hy, hr], ⟨fun b => b = g', ⟨fun _ => Iff.rfl, (Array.getElem?_eq_some_iff.1 hg').1, fun j u hu => ?_⟩, fun b hb => .inr (by rw [hb]; exact hg0), ?_⟩, ⟨hgrown.os, hgrown.tape, hgrown.output, hgrown.size, fun b hb _ => hblk b hb⟩⟩
        · rw [cell_of_row w' g' j cur' e _ hg']
          rw [← htk', List.getElem?_take] at hu
          split at hu
          · simpa using hu
          · cases hu
        · have hk : Sat w' F (fun b => (U b ∧ ¬ S b) ∧ b < w.heap.size) := hF.inside.keep hgrown.size fun b _ hlt => hblk b hlt
          exact hk.mono fun b hb => ⟨.inl hb.1.1, fun e => by rw [e] at hb; exact absurd hb.2 (Nat.not_lt.2 hg0)⟩
/-- []byte(b) of a row of bytes: the row itself, marked. -/
theorem s_b2b {d T e g m : Nat} {x : Operand} {cs : List Value} {F : List HP} (hd : Nat.blt d n = true) (h1 : P.underlying T = some (.slice e)) (h2 : P.underlying e = some (.int .u8)) (hx : ev fr x = some (.slice (some ⟨g, 0, none⟩) m m)) (htk : Take l [Qy g cs e] F)
    (k : WpL P n D ops rest Q ((d, .slice (some ⟨g, 0, none⟩) m m) :: fr) (cvR e g cs.length cs :: F)) : WpL P n D ops (⟨some d, .convert T T x, ty, pos, aft, none⟩ :: rest) Q fr l := by
  refine Xs (σ := Unit) hd (fun _ => .slice (some ⟨g, 0, none⟩) m m) (fun _ => cvR e g cs.length cs :: F) (fun A w U hh hs' => ?_) (fun _ => k)
  have h3 := htk.ent w U hs'
  obtain ⟨S, ⟨hS, hg⟩, hSU, hF⟩ := h3
  have hsh : w.shape? g = some (e, cs.length) := by simp [World.shape?, hg]
  have hat : (w.freeze ⟨g, cs.length, none⟩ 1).heap[g]? = some (.cells cs.toArray e (cs.length, cs.length + 1)) := by
    have hlt := (Array.getElem?_eq_some_iff.1 hg).1
    simp [World.freeze, Array.getElem?_modify, hg]
  have hot : ∀ b, b ≠ g → (w.freeze ⟨g, cs.length, none⟩ 1).heap[b]? = w.heap[b]? := fun b hb => by
    simp [World.freeze, Array.getElem?_modify, Ne.symm hb]
  have hsz : (w.freeze ⟨g, cs.length, none⟩ 1).heap.size = w.heap.size := by simp [World.freeze]
  refine ⟨(), w.freeze ⟨g, cs.length, none⟩ 1, ?_, ⟨S, ⟨hS, cs.toArray, by simpa using hat, by simp, Nat.le_refl _, by simp⟩, fun b hb => .inl (hSU b hb), ?_⟩, ⟨by simp [World.freeze], by simp [World.freeze], by simp [World.freeze], by rw [hsz]; exact Nat.le_refl _, fun b _ hnb => hot b fun q => hnb (hSU b ((hS b).2 q))⟩⟩
  · simp [execOp, hh.ev hx, convert, run_underlying h1, run_underlying h2, markStringish, hsh]
  · have hk : Sat (w.freeze ⟨g, cs.length, none⟩ 1) F (fun b => (U b ∧ ¬ S b) ∧ b < w.heap.size) := hF.inside.keep (by rw [hsz]; exact Nat.le_refl _) fun b hb _ => hot b fun q => hb.1.2 ((hS b).2 q)
    exact hk.mono fun b hb => ⟨.inl hb.1.1, hb.1.2⟩
theorem RdsL.cvR {e g c : Nat} {xs : List Value} : RdsL [Go.Proofs.YtggamdlpiejbiaaGreat.cvR e g c xs] (some ⟨g, 0, none⟩) xs := by
  intro w U ⟨S, hp, _⟩
  refine ⟨fun _ => rfl, fun ad had j u hu => ?_⟩
  injection had with had
  subst had
  rw [Y1, Nat.zero_add]
  exact cvR_cells hp j u hu
end
end Go.Proofs.YtggamdlpiejbiaaGreat
namespace Go.Proofs.YtggamdlpiejbiaaGreat
open Go.RowKit Go.Shelf


theorem tk_may {C M W H k : Int} {px : List Int} (h : k ∈ QL C M ∧ Ym C M W H px) : XP k W H M ∧ (∀ p ∈ px, X3 p (QT k) M) ∧ (px.length : Int) = W * H ∧ px.length ≤ 16777216 := by
  obtain ⟨hf, hk6, hc, h1⟩ := kinds_mem h.1
  obtain ⟨⟨hw, hh, hs⟩, hl, hp⟩ := h.2
  have hm := hf.2
  exact ⟨⟨hk6, hw, hh, hm, h1⟩, fun p hpp => by rw [hc]; exact hp p hpp, hl, by omega⟩
theorem iHead_alt (As : List HP) (C M W H : Int) (a : Option Addr) (c : Nat) (px : List Int) (hA : RdsL As a (XG px)) (hb : ∀ p ∈ px, 0 ≤ p ∧ p < 18446744073709551616) (hl : px.length ≤ 9223372036854775807) (k : Int) : Fn Tryz.prog 49 #[.agg #[.int .i64 C, .int .i64 M, .int .i64 W, .int .i64 H, .slice a px.length c], .int .i64 k] As (fun v l => ((k ∈ QL C M ∧ Ym C M W H px) ∧ v = .tuple #[.agg #[.int .i64 k, .int .i64 W, .int .i64 H, .int .i64 M], .int .i64 0] ∧ l = As) ∨ (¬ (k ∈ QL C M ∧ Ym C M W H px) ∧ v = .tuple #[.agg #[.int .i64 0, .int .i64 0, .int .i64 0, .int .i64 0], .int .i64 1] ∧ l = As)) := by
  refine (iHead_spec As C M W H a c px hA hb hl k).mono ?_
  rintro v l ⟨⟨h, rfl⟩ | ⟨h, rfl⟩, rfl⟩
  · exact ⟨_, .inl ⟨h, rfl, rfl⟩, Ent.refl _⟩
  · exact ⟨_, .inr ⟨h, rfl, rfl⟩, Ent.refl _⟩

theorem iWrP_spec (A0 : HP) (gI gH : Nat) (C M k : Int) (Wn Hn : Nat) (a : Option Addr) (c : Nat) (px : List Int) (hA : RdsL [A0] a (XG px)) (hb : ∀ p ∈ px, 0 ≤ p ∧ p < 18446744073709551616) (hcap : px.length ≤ c) (hT : k ∈ QL C M ∧ Ym C M (Wn : Int) (Hn : Int) px) (hk : k < 4) : Fn Tryz.prog 88 #[.pointer (some ⟨gI, 0, none⟩), .pointer (some ⟨gH, 0, none⟩)] [Qy gI [.int .i64 C, .int .i64 M, .int .i64 (Wn : Int), .int .i64 (Hn : Int), .slice a px.length c] 79, Qy gH [.int .i64 k, .int .i64 (Wn : Int), .int .i64 (Hn : Int), .int .i64 M] 98, A0] (fun v l => ∃ gB cB, v = .slice (some ⟨gB, 0, none⟩) (wrL k (Wn : Int) 0 px).length cB ∧ l = [rdo gB (Xa (wrL k (Wn : Int) 0 px)), Qy gI [.int .i64 C, .int .i64 M, .int .i64 (Wn : Int), .int .i64 (Hn : Int), .slice a px.length c] 79, Qy gH [.int .i64 k, .int .i64 (Wn : Int), .int .i64 (Hn : Int), .int .i64 M] 98, A0]) := by
 obtain ⟨hMay, hfit, hpl, hp16⟩ := tk_may hT
 have hM2 := hMay
 unfold XP at hM2
 refine Ql (vs := [.pointer (some ⟨gI, 0, none⟩), .pointer (some ⟨gH, 0, none⟩)]) Tryz.func88 rfl Tryz.ntmps88 rfl ?_
 refine Qb (Qa (Qe rfl rfl (WpL.nil (Qb (Qa (Qj (o2 := 2) rfl rfl rfl (Qj (o2 := 4) rfl rfl rfl (Qo rfl rfl (by rfl) ?_))))))))
 refine QD (vs := [_, _, _, _]) rfl rfl rfl (by rfl) ?_
 refine Qh rfl rfl (by repeat' constructor) (Write_ok A0 a c px hA hb (by omega) hcap k M Wn Hn ⟨hMay, by omega⟩) ?_
 rintro _ _ ⟨s8, e8, rfl, hs8, rfl⟩
 simp only [Qq]
 obtain ⟨_, rfl, hs8, hz8⟩ : WrP k (Wn : Int) (Hn : Int) M px ∧ e8 = 0 ∧ QP s8 = (wrL k (Wn : Int) 0 px) ∧ s8.size ≤ px.length * 20 := by
  rcases hs8 with q | q
  ·exact q
  ·exact absurd (⟨⟨hMay, by omega⟩, hpl, hfit⟩ : WrP k (Wn : Int) (Hn : Int) M px) q.1
 refine Qc rfl rfl (QF rfl rfl rfl (QF rfl rfl rfl (Qe rfl rfl (Qe rfl rfl (WpL.nil (Qb (Qa (Qc rfl rfl (s_t2b rfl Tryz.underlying9 Tryz.underlying22 Tryz.underlying5 rfl ?_)))))))))
 intro gB cB
 rw [hs8]
 refine Qe rfl rfl (WpL.nil (Qi ?_))
 apply RetQ.mk
 ·exact (Res.one rfl rfl)
 ·exact ⟨gB, cB, rfl, rfl⟩
 ·exact Take.ent' (by repeat' constructor)

theorem iWrR_spec (A0 : HP) (gI gH : Nat) (C M k : Int) (Wn Hn : Nat) (a : Option Addr) (c : Nat) (px : List Int) (hA : RdsL [A0] a (XG px)) (hb : ∀ p ∈ px, 0 ≤ p ∧ p < 18446744073709551616) (hcap : px.length ≤ c) (hT : k ∈ QL C M ∧ Ym C M (Wn : Int) (Hn : Int) px) (hk : 4 ≤ k) : Fn Tryz.prog 90 #[.pointer (some ⟨gI, 0, none⟩), .pointer (some ⟨gH, 0, none⟩)] [Qy gI [.int .i64 C, .int .i64 M, .int .i64 (Wn : Int), .int .i64 (Hn : Int), .slice a px.length c] 79, Qy gH [.int .i64 k, .int .i64 (Wn : Int), .int .i64 (Hn : Int), .int .i64 M] 98, A0] (fun v l => ∃ a9 c9, v = .slice a9 (Q7 k Wn (Qg M) px Hn).length c9 ∧ (Q7 k Wn (Qg M) px Hn).length ≤ 2000000000 ∧ l = [QH 5 1 a9 c9 (Q7 k Wn (Qg M) px Hn).length (Xa (Q7 k Wn (Qg M) px Hn)), Qy gI [.int .i64 C, .int .i64 M, .int .i64 (Wn : Int), .int .i64 (Hn : Int), .slice a px.length c] 79, Qy gH [.int .i64 k, .int .i64 (Wn : Int), .int .i64 (Hn : Int), .int .i64 M] 98, A0]) := by
 obtain ⟨hMay, hfit, hpl, hp16⟩ := tk_may hT
 have hM2 := hMay
 unfold XP at hM2
 have hpn : px.length = Wn * Hn := by exact_mod_cast hpl
 have hwl := X2 (K := k) (w := Qg M) (QX M) hpn (fun p hp => by have := can_fit (hfit p hp); omega) Hn (Nat.le_refl _)
 have hsb := XE (K := k) (W := Wn) (QX M) (by omega) (by omega)
 have hwl2 : (Q7 k Wn (Qg M) px Hn).length ≤ 65536 * 24576 := by rw [hwl]; (rw [Nat.mul_comm]; exact Nat.mul_le_mul (by omega) hsb.2)
 refine Ql (vs := [.pointer (some ⟨gI, 0, none⟩), .pointer (some ⟨gH, 0, none⟩)]) Tryz.func90 rfl Tryz.ntmps90 rfl ?_
 refine Qb (Qa (Qe rfl rfl (WpL.nil (Qb (Qa (Qj (o2 := 2) rfl rfl rfl (Qj (o2 := 4) rfl rfl rfl (Qo rfl rfl (by rfl) ?_))))))))
 refine QD (vs := [_, _, _, _]) rfl rfl rfl (by rfl) ?_
 refine Qh rfl rfl (by repeat' constructor) (RawWrite_spec A0 a c px hA hb hcap k Wn Hn M ⟨hMay, by omega⟩ hpn hfit) ?_
 rintro _ _ ⟨a9, c9, rfl, hc9, rfl⟩
 simp only [Qq]
 refine Qc rfl rfl (QF rfl rfl rfl (QF rfl rfl rfl (Qe rfl rfl (Qe rfl rfl (WpL.nil (Qb (Qa (Qc rfl rfl (Qe rfl rfl (WpL.nil (Qi ?_)))))))))))
 apply RetQ.mk
 ·exact (Res.one rfl rfl)
 ·exact ⟨a9, c9, rfl, by omega, rfl⟩
 ·exact Take.ent' (by repeat' constructor)

end Go.Proofs.YtggamdlpiejbiaaGreat
namespace Go.Proofs.YtggamdlpiejbiaaGreat
open Go.RowKit Go.Shelf


theorem hdW_lenH {K W H M : Int} (h : XP K W H M) : (hdW K W H M).length ≤ 400000 := by
  unfold XP at h
  have h1 := digs_len K.toNat
  have h2 := digs_len W.toNat
  have h3 := digs_len H.toNat
  have h4 := digs_len M.toNat
  unfold hdW
  simp only [List.length_append, List.length_cons, List.length_nil]
  split <;> simp only [List.length_append, List.length_cons, List.length_nil] <;> omega
theorem wrL_lenB {C M W H k : Int} {px : List Int} (h : k ∈ QL C M ∧ Ym C M W H px) (_hk : k < 4) : (wrL k W 0 px).length ≤ 1000000000 := by
  have h1 := (tk_may h).2.2.2
  have h2 := wrL_len (K := k) (W := W) px 0
  omega

set_option maxHeartbeats 1000000 in
theorem iWriteN_spec (A0 : HP) (C M : Int) (Wn Hn : Nat) (a : Option Addr) (c : Nat) (px : List Int) (hA : RdsL [A0] a (XG px)) (hb : ∀ p ∈ px, 0 ≤ p ∧ p < 18446744073709551616) (hcap : px.length ≤ c) (hpl : px.length ≤ 9223372036854775807) (k : Int) : Fn Tryz.prog 48 #[.agg #[.int .i64 C, .int .i64 M, .int .i64 (Wn : Int), .int .i64 (Hn : Int), .slice a px.length c], .int .i64 k] [A0] (fun v l => (k ∈ QL C M ∧ Ym C M (Wn : Int) (Hn : Int) px ∧ ∃ g c2, v = .tuple #[.slice (some ⟨g, 0, none⟩) (wrI ⟨C, M, (Wn : Int), (Hn : Int), px⟩ k).length c2, .int .i64 0] ∧ l = [rdo g (Xa (wrI ⟨C, M, (Wn : Int), (Hn : Int), px⟩ k)), A0]) ∨ (¬ (k ∈ QL C M ∧ Ym C M (Wn : Int) (Hn : Int) px) ∧ v = .tuple #[.slice none 0 0, .int .i64 1] ∧ l = [A0])) := by
 refine Ql (vs := [.agg #[.int .i64 C, .int .i64 M, .int .i64 (Wn : Int), .int .i64 (Hn : Int), .slice a px.length c], .int .i64 k]) Tryz.func48 rfl Tryz.ntmps48 rfl (Qb (Qa (Q2 rfl rfl rfl ?_)))
 intro gI
 refine Qe rfl rfl (Qe rfl rfl (WpL.nil (Qb (Qa ?_))))
 refine QD (vs := [_, _, _, _, _]) rfl rfl rfl (by rfl) ?_
 refine Qc rfl rfl (Qh rfl rfl (by repeat' constructor) (iHead_alt [A0] C M (Wn : Int) (Hn : Int) a c px hA hb hpl k) ?_)
 intro v0 m0 hN0
 rcases hN0 with ⟨hT, rfl, rfl⟩ | ⟨hT, rfl, rfl⟩
 ·simp only [Qq]
  obtain ⟨hMay, hfit, hpl2, hp16⟩ := tk_may hT
  have hM2 := hMay
  unfold XP at hM2
  refine Qc rfl rfl (QF rfl rfl rfl (QF rfl rfl rfl (Yd rfl ?_)))
  intro gH
  refine Xm rfl rfl rfl (by rfl) rfl ?_
  refine Qe rfl rfl (WpL.nil (Qb (Qb (Qa (Qc rfl rfl (Xf rfl rfl rfl (WpL.nil (Qw rfl (fun h => h rfl) ?_))))))))
  refine Wp.skip (Qb (Qa ?_))
  refine QD (vs := [_, _, _, _]) rfl rfl rfl (by rfl) ?_
  refine Qh rfl rfl (by repeat' constructor) (hWrite_spec _ _ _ _ hMay) ?_
  rintro _ _ ⟨s6, hs6, rfl, rfl⟩
  simp only [Qq]
  have hz6 := hdW_lenH hMay
  have hs6z : s6.size ≤ 400000 := by rw [← Xo, hs6]; exact hz6
  refine Qc rfl rfl (QF rfl rfl rfl (QF rfl rfl rfl (Qe rfl rfl (Qe rfl rfl (WpL.nil (Qb (Qa (s_mkf rfl (fun a hh => XC hh _ _ rfl) ?_))))))))
  refine Qe rfl rfl (WpL.nil (Qb (Qb (Qa ?_))))
  refine QD (vs := [_, _, _, _]) rfl rfl rfl (by rfl) ?_
  refine Qh rfl rfl (by repeat' constructor) (YH _ _ _ _) ?_
  rintro _ _ ⟨rfl, rfl⟩
  simp only [Qq]
  refine WpL.nil (Qn rfl (fun h1 => ?_) (fun h1 => ?_))
  ·refine Qa (s_mkf rfl (fun a hh => XC hh _ _ rfl) ?_)
   refine Qe rfl rfl (WpL.nil (Qb (Qa (Qc rfl rfl (s_t2bc rfl Tryz.underlying9 Tryz.underlying22 Tryz.underlying5 rfl ?_)))))
   intro g30 c30
   rw [hs6]
   refine Qc rfl rfl (XD (u := []) (c := [.pointer (some ⟨gI, 0, none⟩), .pointer (some ⟨gH, 0, none⟩)]) rfl rfl rfl rfl (by repeat' constructor) (iWrR_spec A0 gI gH C M k Wn Hn a c px hA hb hcap hT (by omega)) ?_)
   rintro _ _ ⟨a9, c9, rfl, hz9, rfl⟩
   simp only [Qq]
   (refine s_appC rfl rfl rfl (by repeat' constructor) (QM (T := 5) (s := 1) (c := c9) (m := (Q7 k Wn (Qg M) px Hn).length)) (by exact Take.ent' (by repeat' constructor)) (QV _) (QV _) (by rfl) (u8s_one _) (by omega) (by omega) ?_; intro g33 c33; rw [u8s_app, ← List.length_append, show hdW k (Wn : Int) (Hn : Int) M ++ (Q7 k Wn (Qg M) px Hn) = (wrI ⟨C, M, (Wn : Int), (Hn : Int), px⟩ k) from (by unfold wrI; rw [if_neg (by omega)]; rfl)])
   refine Qe rfl rfl (Qe rfl rfl (WpL.nil (Qi ?_)))
   apply RetQ.mk
   ·exact (QC rfl rfl rfl)
   ·exact .inl ⟨hT.1, hT.2, g33, c33, rfl, rfl⟩
   ·exact Take.ent' (by repeat' constructor)
  ·refine Wp.skip (Qb (Qa (Qc rfl rfl (s_t2bc rfl Tryz.underlying9 Tryz.underlying22 Tryz.underlying5 rfl ?_))))
   intro g30 c30
   rw [hs6]
   refine Qc rfl rfl (XD (u := []) (c := [.pointer (some ⟨gI, 0, none⟩), .pointer (some ⟨gH, 0, none⟩)]) rfl rfl rfl rfl (by repeat' constructor) (iWrP_spec A0 gI gH C M k Wn Hn a c px hA hb hcap hT (by omega)) ?_)
   rintro _ _ ⟨gB, cB, rfl, rfl⟩
   simp only [Qq]
   (have hz8 := wrL_lenB hT (by omega); refine s_appC rfl rfl rfl (by repeat' constructor) (RdsL.rdo (g := gB) (xs := Xa (wrL k (Wn : Int) 0 px))) (by exact Take.ent' (by repeat' constructor)) (QV _) (QV _) (by rfl) (u8s_one _) (by omega) (by omega) ?_; intro g33 c33; rw [u8s_app, ← List.length_append, show hdW k (Wn : Int) (Hn : Int) M ++ (wrL k (Wn : Int) 0 px) = (wrI ⟨C, M, (Wn : Int), (Hn : Int), px⟩ k) from (by unfold wrI; rw [if_pos (by omega)])])
   refine Qe rfl rfl (Qe rfl rfl (WpL.nil (Qi ?_)))
   apply RetQ.mk
   ·exact (QC rfl rfl rfl)
   ·exact .inl ⟨hT.1, hT.2, g33, c33, rfl, rfl⟩
   ·exact Take.ent' (by repeat' constructor)
 ·simp only [Qq]
  refine Qc rfl rfl (QF rfl rfl rfl (QF rfl rfl rfl (Yd rfl ?_)))
  intro gH
  refine Xm rfl rfl rfl (by rfl) rfl ?_
  refine Qe rfl rfl (WpL.nil (Qb (Qb (Qa (Qc rfl rfl (Xf rfl rfl rfl (WpL.nil (QG rfl (by decide) (Qb (Qa (Qc rfl rfl (Qe rfl rfl ?_))))))))))))
  refine Qe rfl rfl (WpL.nil (Qi ?_))
  apply RetQ.mk
  ·exact (QC rfl rfl rfl)
  ·exact .inr ⟨hT, rfl, rfl⟩
  ·exact Take.ent' (by repeat' constructor)

end Go.Proofs.YtggamdlpiejbiaaGreat
namespace Go.Proofs.YtggamdlpiejbiaaGreat
open Go.RowKit Go.Shelf


theorem hdRun_inv (l0 l1 l2 : Int) (hL : LimO l0 l1 l2) : ∀ (bs : List Int) (h : HS) (n : Int), hdJ l0 l1 l2 h → ((Xq l0 l1 l2 h bs n).1.last = 1 → Y8 (Xq l0 l1 l2 h bs n).1) ∧ ((Xq l0 l1 l2 h bs n).1.last = 2 → HdBad (Xq l0 l1 l2 h bs n).1) ∧ ((Xq l0 l1 l2 h bs n).1.last = 0 ∨ (Xq l0 l1 l2 h bs n).1.last = 1 ∨ (Xq l0 l1 l2 h bs n).1.last = 2) ∧ n ≤ (Xq l0 l1 l2 h bs n).2 ∧ (Xq l0 l1 l2 h bs n).2 ≤ n + bs.length
  | [], h, n, hj => by
    have := hj.1.1
    refine ⟨fun q => ?_, fun q => ?_, .inl this, ?_, ?_⟩
    · exact absurd (this.symm.trans q) (by decide)
    · exact absurd (this.symm.trans q) (by decide)
    · simp [Xq]
    · simp [Xq]
  | c :: bs, h, n, hj => by
    rcases hdPut_ok (c := c) hL hj with q | q | q
    · have h0 := q.1.1
      rw [hdRun_one _ _ _ h0]
      have ih := hdRun_inv l0 l1 l2 hL bs _ (n + 1) q
      refine ⟨ih.1, ih.2.1, ih.2.2.1, by omega, by rw [List.length_cons]; push_cast; omega⟩
    · have h0 := q.1
      rw [hdRun_fin _ _ _ (by rw [h0]; decide)]
      exact ⟨fun z => absurd (h0.symm.trans z) (by decide), fun _ => q, .inr (.inr h0), by simp only; omega, by simp only [List.length_cons]; push_cast; omega⟩
    · have h0 := q.1
      rw [hdRun_fin _ _ _ (by rw [h0]; decide)]
      exact ⟨fun _ => q, fun z => absurd (h0.symm.trans z) (by decide), .inr (.inl h0), by simp only; omega, by simp only [List.length_cons]; push_cast; omega⟩
theorem hdP_ok (l0 l1 l2 : Int) (hL : LimO l0 l1 l2) (bs : List Int) : ((XA l0 l1 l2 bs).2.2 = 0 → XP (XA l0 l1 l2 bs).1.1 (XA l0 l1 l2 bs).1.2.1 (XA l0 l1 l2 bs).1.2.2.1 (XA l0 l1 l2 bs).1.2.2.2) ∧ 0 ≤ (XA l0 l1 l2 bs).2.1 ∧ (XA l0 l1 l2 bs).2.1 ≤ bs.length ∧ ((XA l0 l1 l2 bs).2.2 ≠ 0 → (XA l0 l1 l2 bs).1 = (0, 0, 0, 0)) := by
  have q := hdRun_inv l0 l1 l2 hL bs hd0 0 (hdJ0 l0 l1 l2)
  rw [hdP_fin]
  unfold hdFin
  by_cases h1 : (Xq l0 l1 l2 hd0 bs 0).1.last = 1
  · rw [if_pos h1]
    exact ⟨fun _ => (q.1 h1).2.2, by simp only; omega, by simp only; omega, fun z => absurd rfl z⟩
  · rw [if_neg h1]
    by_cases h2 : (Xq l0 l1 l2 hd0 bs 0).1.last = 2
    · rw [if_pos h2]
      have hb := q.2.1 h2
      unfold HdBad at hb
      exact ⟨fun z => by simp only at z; omega, by simp only; omega, by simp only; omega, fun _ => rfl⟩
    · rw [if_neg h2]
      exact ⟨fun z => by simp at z, by simp, by simp, fun _ => rfl⟩

theorem SizeN_spec (K W H M : Int) (hK : 1 ≤ K ∧ K < 4) : Fn Tryz.prog 75 #[.agg #[.int .i64 K, .int .i64 W, .int .i64 H, .int .i64 M]] [] (fun v l => v = .int .i64 0 ∧ l = []) := by
 refine Ql (vs := [.agg #[.int .i64 K, .int .i64 W, .int .i64 H, .int .i64 M]]) Tryz.func75 rfl Tryz.ntmps75 rfl (Qb (Qa (Q2 rfl rfl rfl ?_)))
 intro g1
 refine Qe rfl rfl (WpL.nil (Qb (Wp.block ?_)))
 refine Qb (Qa ?_)
 refine QD (vs := [_, _, _, _]) rfl rfl rfl (by rfl) ?_
 refine Qh rfl rfl (by repeat' constructor) (YH _ _ _ _) ?_
 rintro _ _ ⟨rfl, rfl⟩
 simp only [Qq]
 refine XR rfl rfl (Qe rfl rfl (WpL.nil (QG rfl (fun q => by omega) ?_)))
 refine Qb (Qa (Qe rfl rfl (WpL.nil (Qi ?_))))
 apply RetQ.mk
 ·exact (Res.one rfl rfl)
 ·exact ⟨rfl, rfl⟩
 ·exact Ent.nil _


theorem SizeA_spec (K : Int) (W H : Nat) (M : Int) (hM : XP K (W : Int) (H : Int) M) : Fn Tryz.prog 75 #[.agg #[.int .i64 K, .int .i64 (W : Int), .int .i64 (H : Int), .int .i64 M]] [] (fun v l => v = .int .i64 (if 4 ≤ K then ((QA K W (Qg M) * H : Nat) : Int) else 0) ∧ l = []) := by
  have hM2 := hM
  unfold XP at hM2
  by_cases h : 4 ≤ K
  · rw [if_pos h]
    exact Size_spec K W H M ⟨hM, by omega⟩
  · rw [if_neg h]
    exact SizeN_spec K W H M (by omega)
theorem readL_i {K W H M : Int} : ∀ (bs : List Int) (i : Int) (s : RS) (acc : List Int), 0 ≤ i → 0 ≤ (readL K W H M bs i s acc).2.1 ∧ (readL K W H M bs i s acc).2.1 ≤ i + bs.length
  | [], i, s, acc, h => by
    unfold readL
    split
    · refine ⟨Int.le_refl _, ?_⟩; show (0 : Int) ≤ i + ((0 : Nat) : Int); omega
    · refine ⟨h, ?_⟩; show i ≤ i + ((0 : Nat) : Int); omega
  | c :: bs, i, s, acc, h => by
    unfold readL
    split
    · exact ⟨by show (0 : Int) ≤ i + 1; omega, by show i + 1 ≤ i + ((bs.length + 1 : Nat) : Int); omega⟩
    · split
      · exact ⟨Int.le_refl _, by show (0 : Int) ≤ i + ((bs.length + 1 : Nat) : Int); omega⟩
      · have := readL_i (K := K) (W := W) (H := H) (M := M) bs (i + 1) (Ys K W H M s c).1 (acc ++ (Ys K W H M s c).2) (by omega)
        simp only [List.length_cons]; push_cast; omega
theorem readS_i {K W H M : Int} (bs : List Int) : 0 ≤ (readS K W H M bs).2.1 ∧ (readS K W H M bs).2.1 ≤ bs.length := by
  unfold readS
  split
  · have := readL_i (K := K) (W := W) (H := H) (M := M) bs 0 s0R [] (by omega); omega
  · simp
/-- The image that bytes begin with, how many bytes it has, the error. -/
def Yj (l0 l1 l2 : Int) (bs : List Int) : Img × Int × Int :=
  if (XA l0 l1 l2 bs).2.2 ≠ 0 then (im0, 0, (XA l0 l1 l2 bs).2.2) else
  if 4 ≤ (XA l0 l1 l2 bs).1.1 then
    (if (rawF (XA l0 l1 l2 bs).1.1 (XA l0 l1 l2 bs).1.2.1.toNat (XA l0 l1 l2 bs).1.2.2.1.toNat (XA l0 l1 l2 bs).1.2.2.2 (bs.drop (XA l0 l1 l2 bs).2.1.toNat)).2 ≠ 0 then (im0, 0, (rawF (XA l0 l1 l2 bs).1.1 (XA l0 l1 l2 bs).1.2.1.toNat (XA l0 l1 l2 bs).1.2.2.1.toNat (XA l0 l1 l2 bs).1.2.2.2 (bs.drop (XA l0 l1 l2 bs).2.1.toNat)).2) else
      (⟨QT (XA l0 l1 l2 bs).1.1, (XA l0 l1 l2 bs).1.2.2.2, (XA l0 l1 l2 bs).1.2.1, (XA l0 l1 l2 bs).1.2.2.1, (rawF (XA l0 l1 l2 bs).1.1 (XA l0 l1 l2 bs).1.2.1.toNat (XA l0 l1 l2 bs).1.2.2.1.toNat (XA l0 l1 l2 bs).1.2.2.2 (bs.drop (XA l0 l1 l2 bs).2.1.toNat)).1⟩, (XA l0 l1 l2 bs).2.1 + ((QA (XA l0 l1 l2 bs).1.1 (XA l0 l1 l2 bs).1.2.1.toNat (Qg (XA l0 l1 l2 bs).1.2.2.2) * (XA l0 l1 l2 bs).1.2.2.1.toNat : Nat) : Int), 0))
  else
    (if (readS (XA l0 l1 l2 bs).1.1 (XA l0 l1 l2 bs).1.2.1 (XA l0 l1 l2 bs).1.2.2.1 (XA l0 l1 l2 bs).1.2.2.2 (bs.drop (XA l0 l1 l2 bs).2.1.toNat)).2.2 ≠ 0 then (im0, 0, (readS (XA l0 l1 l2 bs).1.1 (XA l0 l1 l2 bs).1.2.1 (XA l0 l1 l2 bs).1.2.2.1 (XA l0 l1 l2 bs).1.2.2.2 (bs.drop (XA l0 l1 l2 bs).2.1.toNat)).2.2) else
      (⟨QT (XA l0 l1 l2 bs).1.1, (XA l0 l1 l2 bs).1.2.2.2, (XA l0 l1 l2 bs).1.2.1, (XA l0 l1 l2 bs).1.2.2.1, (readS (XA l0 l1 l2 bs).1.1 (XA l0 l1 l2 bs).1.2.1 (XA l0 l1 l2 bs).1.2.2.1 (XA l0 l1 l2 bs).1.2.2.2 (bs.drop (XA l0 l1 l2 bs).2.1.toNat)).1⟩, (XA l0 l1 l2 bs).2.1 + (readS (XA l0 l1 l2 bs).1.1 (XA l0 l1 l2 bs).1.2.1 (XA l0 l1 l2 bs).1.2.2.1 (XA l0 l1 l2 bs).1.2.2.2 (bs.drop (XA l0 l1 l2 bs).2.1.toNat)).2.1, 0))
section
variable {l0 l1 l2 : Int} {bs : List Int} {K W H M n e : Int}
theorem parF_e (h : XA l0 l1 l2 bs = ((K, W, H, M), n, e)) (he : e ≠ 0) : Yj l0 l1 l2 bs = (im0, 0, e) := by unfold Yj; rw [h]; exact if_pos he
theorem parF_re (h : XA l0 l1 l2 bs = ((K, W, H, M), n, 0)) (h4 : 4 ≤ K) {out : List Int} {x : Int} (hr : rawF K W.toNat H.toNat M (bs.drop n.toNat) = (out, x)) (hx : x ≠ 0) : Yj l0 l1 l2 bs = (im0, 0, x) := by
  unfold Yj; rw [h]; dsimp only; rw [if_neg (fun q => q rfl), if_pos h4, hr]; exact if_pos hx
theorem parF_r (h : XA l0 l1 l2 bs = ((K, W, H, M), n, 0)) (h4 : 4 ≤ K) {out : List Int} (hr : rawF K W.toNat H.toNat M (bs.drop n.toNat) = (out, 0)) : Yj l0 l1 l2 bs = (⟨QT K, M, W, H, out⟩, n + ((QA K W.toNat (Qg M) * H.toNat : Nat) : Int), 0) := by
  unfold Yj; rw [h]; dsimp only; rw [if_neg (fun q => q rfl), if_pos h4, hr]; exact if_neg (fun q => q rfl)
theorem parF_pe (h : XA l0 l1 l2 bs = ((K, W, H, M), n, 0)) (h4 : ¬ 4 ≤ K) {out : List Int} {i x : Int} (hr : readS K W H M (bs.drop n.toNat) = (out, i, x)) (hx : x ≠ 0) : Yj l0 l1 l2 bs = (im0, 0, x) := by
  unfold Yj; rw [h]; dsimp only; rw [if_neg (fun q => q rfl), if_neg h4, hr]; exact if_pos hx
theorem parF_p (h : XA l0 l1 l2 bs = ((K, W, H, M), n, 0)) (h4 : ¬ 4 ≤ K) {out : List Int} {i : Int} (hr : readS K W H M (bs.drop n.toNat) = (out, i, 0)) : Yj l0 l1 l2 bs = (⟨QT K, M, W, H, out⟩, n + i, 0) := by
  unfold Yj; rw [h]; dsimp only; rw [if_neg (fun q => q rfl), if_neg h4, hr]; exact if_neg (fun q => q rfl)
end
end Go.Proofs.YtggamdlpiejbiaaGreat
namespace Go.Proofs.YtggamdlpiejbiaaGreat
open Go.RowKit Go.Shelf


theorem hParse_alt (a b d : Int) (bs : List Int) (hbs : ∀ x ∈ bs, 0 ≤ x ∧ x ≤ 255) (hl : bs.length ≤ 1000000000) {K W H M n e : Int} (hP : XA (Xh a) (Xi b) (Xj d) bs = ((K, W, H, M), n, e)) : Fn Tryz.prog 74 #[.string (strOfNums bs), .agg #[.int .i64 a, .int .i64 b, .int .i64 d]] [] (fun v l => (e = 0 ∧ v = .tuple #[.agg #[.int .i64 K, .int .i64 W, .int .i64 H, .int .i64 M], .int .i64 n, .int .i64 0] ∧ l = []) ∨ (e ≠ 0 ∧ v = .tuple #[.agg #[.int .i64 0, .int .i64 0, .int .i64 0, .int .i64 0], .int .i64 0, .int .i64 e] ∧ l = [])) := by
  refine (hParse_spec a b d (strOfNums bs) (by rw [YG]; omega)).mono ?_
  rintro v l ⟨rfl, rfl⟩
  rw [Y2 hbs, hP]
  by_cases he : e = 0
  · exact ⟨_, .inl ⟨he, if_pos he, rfl⟩, Ent.refl _⟩
  · exact ⟨_, .inr ⟨he, if_neg he, rfl⟩, Ent.refl _⟩
set_option maxHeartbeats 1000000 in
theorem iParse_spec (A0 : HP) (a0 : Option Addr) (c0 : Nat) (bs : List Int) (hA : RdsL [A0] a0 (Xa bs)) (hbs : ∀ x ∈ bs, 0 ≤ x ∧ x ≤ 255) (hc0 : bs.length ≤ c0) (hbl : bs.length ≤ 1000000000) (a b d : Int) : Fn Tryz.prog 38 #[.slice a0 bs.length c0, .agg #[.int .i64 a, .int .i64 b, .int .i64 d]] [A0] (fun v l => ∃ aR cR, v = .tuple #[.agg #[.int .i64 (Yj (Xh a) (Xi b) (Xj d) bs).1.c, .int .i64 (Yj (Xh a) (Xi b) (Xj d) bs).1.m, .int .i64 (Yj (Xh a) (Xi b) (Xj d) bs).1.w, .int .i64 (Yj (Xh a) (Xi b) (Xj d) bs).1.h, .slice aR (Yj (Xh a) (Xi b) (Xj d) bs).1.px.length cR], .int .i64 (Yj (Xh a) (Xi b) (Xj d) bs).2.1, .int .i64 (Yj (Xh a) (Xi b) (Xj d) bs).2.2] ∧ l = [QH 92 1 aR cR (Yj (Xh a) (Xi b) (Xj d) bs).1.px.length (XG (Yj (Xh a) (Xi b) (Xj d) bs).1.px), A0]) := by
 obtain ⟨⟨⟨K, W, H, M⟩, n, e⟩, hPd⟩ : ∃ P, XA (Xh a) (Xi b) (Xj d) bs = P := ⟨_, rfl⟩
 have hok := hdP_ok (Xh a) (Xi b) (Xj d) (lim_o a b d) bs
 rw [hPd] at hok
 dsimp only at hok
 obtain ⟨nn, rfl⟩ := Int.eq_ofNat_of_zero_le hok.2.1
 have hnl : nn ≤ bs.length := by omega
 have hAy : RdsL [A0] (sla a0 nn c0 1) (Xa (bs.drop nn)) := by have q := hA.sla nn bs.length c0 1 hc0; rwa [u8s_from] at q
 have hbd : ∀ x ∈ bs.drop nn, 0 ≤ x ∧ x ≤ 255 := fun x hx => hbs x (List.mem_of_mem_drop hx)
 have hdl : (bs.drop nn).length = bs.length - nn := List.length_drop
 refine Ql (vs := [.slice a0 bs.length c0, .agg #[.int .i64 a, .int .i64 b, .int .i64 d]]) Tryz.func38 rfl Tryz.ntmps38 rfl (Qb (Qa (Q2 rfl rfl rfl ?_)))
 intro gB
 refine Yd rfl ?_
 intro gM
 refine Qe rfl rfl (Qe rfl rfl (WpL.nil (Qb (Qa (Qc rfl rfl (s_b2sR rfl Tryz.underlying22 Tryz.underlying5 Tryz.underlying9 rfl hA (by exact Take.ent' (by repeat' constructor)) rfl ?_))))))
 refine QD (vs := [_, _, _]) rfl rfl rfl (by rfl) ?_
 refine Qh rfl rfl (by repeat' constructor) (hParse_alt a b d bs hbs hbl hPd) ?_
 intro v0 m0 hN0
 rcases hN0 with ⟨hE, rfl, rfl⟩ | ⟨hE, rfl, rfl⟩
 ·simp only [Qq]
  subst hE
  have hMay := hok.1 rfl
  have hM2 := hMay
  unfold XP at hM2
  obtain ⟨Wn, rfl⟩ := Int.eq_ofNat_of_zero_le (show 0 ≤ W by omega)
  obtain ⟨Hn, rfl⟩ := Int.eq_ofNat_of_zero_le (show 0 ≤ H by omega)
  have hsb := XE (K := K) (W := Wn) (QX M) (by omega) (by omega)
  have hsz : QA K Wn (Qg M) * Hn ≤ 24576 * 65536 := Nat.mul_le_mul hsb.2 (by omega)
  refine Qc rfl rfl (QF rfl rfl rfl (QF rfl rfl rfl (QF rfl rfl rfl (Yd rfl ?_))))
  intro gH
  refine Xm rfl rfl rfl (by rfl) rfl ?_
  refine Qe rfl rfl (Qe rfl rfl (WpL.nil (Qb (Qb (Qa (Qc rfl rfl (Xf rfl rfl rfl (WpL.nil (Qw rfl (fun h => h rfl) ?_)))))))))
  refine Wp.skip (Qb (Qa (Qe rfl rfl (WpL.nil (Qb (Qa ?_))))))
  refine QD (vs := [_, _, _, _]) rfl rfl rfl (by rfl) ?_
  refine Qh rfl rfl (by repeat' constructor) (SizeA_spec K Wn Hn M hMay) ?_
  rintro _ _ ⟨rfl, rfl⟩
  simp only [Qq]
  refine Qe rfl rfl (WpL.nil (Qb (Qb (Qa ?_))))
  refine QD (vs := [_, _, _, _]) rfl rfl rfl (by rfl) ?_
  refine Qh rfl rfl (by repeat' constructor) (YH _ _ _ _) ?_
  rintro _ _ ⟨rfl, rfl⟩
  simp only [Qq]
  refine WpL.nil (Qn rfl (fun h1 => ?_) (fun h1 => ?_))
  ·rw [if_pos (show 4 ≤ K by omega)]
   apply Q8 (fB := []) mixed [(4, false)] (by kernel_rfl)
   apply Q4 [⟨0, 29, _, [], false⟩, ⟨1, 30, _, [], false⟩, ⟨2, 31, _, [0, 1], false⟩, ⟨3, 32, _, [], false⟩] [] [0, 1, 2, 3] [28, 34, 35, 10, 9] (.inr rfl) rfl rfl rfl (by kernel_rfl) rfl rfl rfl
   ·refine AllF.cons rfl rfl rfl rfl ?_ ?_
    ·exact Qc rfl rfl (Qm rfl)
    refine AllF.cons rfl rfl rfl rfl ?_ ?_
    ·exact Qc rfl rfl (Qm rfl)
    refine AllF.cons rfl rfl rfl rfl ?_ ?_
    ·refine s_sll_l (L := nn) rfl rfl rfl (by omega) (by omega) ?_
     rw [show bs.length - nn = (bs.drop nn).length from List.length_drop.symm]
     exact Qm rfl
    refine AllF.cons rfl rfl rfl rfl ?_ ?_
    ·refine QD (vs := [_, _, _, _]) rfl rfl rfl (by rfl) ?_
     exact Qm rfl
    exact AllF.nil
   ·refine Qh rfl rfl (by repeat' constructor) (RawRead_spec A0 (sla a0 nn c0 1) (c0 - nn) (bs.drop nn) hAy hbd (by omega) K Wn (Hn : Int) M ⟨hMay, by omega⟩) ?_
    rintro _ _ ⟨b0, out, er, a3, c3, hb0, hrd, rfl, rfl⟩
    simp only [Qq]
    have hrf : rawF K Wn Hn M (bs.drop nn) = (out, er) := by
     have q := readW_raw (h := ⟨K, (Wn : Int), (Hn : Int), M, 0, 0, tk0, 1, 0⟩) ⟨rfl, rfl, hMay⟩ (bs.drop nn) b0 (by simpa using hb0) (by rw [hb0]; omega)
     simp only [Int.toNat_natCast] at q
     rw [← q, ← hrd]
    refine WpL.nil ⟨rfl, rfl, ?_⟩
    apply GoR.nil [⟨5, 28, _, [4], false⟩, ⟨6, 34, _, [5], false⟩, ⟨7, 35, _, [5], false⟩, ⟨8, 10, _, [0, 1, 2, 3, 4, 5, 6], false⟩, ⟨9, 9, _, [0, 1, 2, 3, 4, 5, 6, 7, 8], false⟩] (.inr rfl) rfl rfl
    ·refine AllF.cons rfl rfl rfl rfl ?_ ?_
     ·exact Qc rfl rfl (Qm rfl)
     refine AllF.cons rfl rfl rfl rfl ?_ ?_
     ·exact QF rfl rfl rfl (Qm rfl)
     refine AllF.cons rfl rfl rfl rfl ?_ ?_
     ·exact QF rfl rfl rfl (Qm rfl)
     refine AllF.cons rfl rfl rfl rfl ?_ ?_
     ·exact Qe rfl rfl (Qm rfl)
     refine AllF.cons rfl rfl rfl rfl ?_ ?_
     ·exact Qe rfl rfl (Qm rfl)
     exact AllF.nil
    ·refine Qb (Qb (Qa (Qc rfl rfl (Xf rfl rfl rfl (WpL.nil (Qn rfl (fun h2 => ?_) (fun h2 => ?_)))))))
     ·refine Qb (Qa ?_)
      refine Yt rfl rfl ?_
      refine Qc rfl rfl ?_
      refine Xm rfl rfl rfl (by rfl) rfl ?_
      refine Qe rfl rfl (Qe rfl rfl (WpL.nil (Qi ?_)))
      apply RetQ.mk
      ·exact (XJ rfl rfl (by rfl) rfl rfl)
      ·exact ⟨none, 0, by rw [parF_re hPd (by omega) (by simpa using hrf) (by assumption)]; rfl, rfl⟩
      ·rw [parF_re hPd (by omega) (by simpa using hrf) (by assumption)]
       exact Ent.own_nil (Take.ent' (by repeat' constructor))
     ·obtain rfl : er = 0 := Classical.not_not.1 h2
      refine Wp.skip (Qb ?_)
      apply Q8 (fB := []) mixed [(12, false)] (by kernel_rfl)
      apply Q4 [⟨0, 50, _, [], false⟩, ⟨1, 51, _, [0], false⟩, ⟨2, 52, _, [], false⟩, ⟨3, 53, _, [2], false⟩, ⟨4, 54, _, [], false⟩, ⟨5, 55, _, [4], false⟩, ⟨6, 56, _, [], false⟩, ⟨7, 57, _, [3, 5, 6], false⟩, ⟨8, 58, _, [1, 7], false⟩, ⟨9, 59, _, [], true⟩, ⟨10, 60, _, [], true⟩, ⟨11, 61, _, [9, 10], true⟩] [] [0, 1, 2, 3, 4, 5, 6, 7, 8] [5, 6, 59, 60, 61] (.inl ⟨_, .nil⟩) rfl rfl rfl (by kernel_rfl) rfl rfl rfl
      ·refine AllF.cons rfl rfl rfl rfl ?_ ?_
       ·refine QD (vs := [_, _, _, _]) rfl rfl rfl (by rfl) ?_
        exact Qm rfl
       refine AllF.cons rfl rfl rfl rfl ?_ ?_
       ·refine Qh rfl rfl (by repeat' constructor) (Xb _ _ _ _ (by omega)) ?_
        rintro _ _ ⟨rfl, rfl⟩
        simp only [Qq]
        exact WpL.nil ⟨rfl, rfl, rfl, by exact Ent.refl _⟩
       refine AllF.cons rfl rfl rfl rfl ?_ ?_
       ·exact Qj (o2 := 1) rfl rfl rfl (Qm rfl)
       refine AllF.cons rfl rfl rfl rfl ?_ ?_
       ·refine Qo rfl rfl (by rfl) ?_
        exact Qm rfl
       refine AllF.cons rfl rfl rfl rfl ?_ ?_
       ·exact Qj (o2 := 2) rfl rfl rfl (Qm rfl)
       refine AllF.cons rfl rfl rfl rfl ?_ ?_
       ·refine Qo rfl rfl (by rfl) ?_
        exact Qm rfl
       refine AllF.cons rfl rfl rfl rfl ?_ ?_
       ·exact Qc rfl rfl (Qm rfl)
       refine AllF.cons rfl rfl rfl rfl ?_ ?_
       ·refine Yt rfl rfl ?_
        exact Qm rfl
       refine AllF.cons rfl rfl rfl rfl ?_ ?_
       ·refine Yt rfl rfl ?_
        exact Qm rfl
       refine Q3 rfl rfl rfl rfl ?_ ?_
       ·exact Qc rfl rfl (Qm rfl)
       refine Q3 rfl rfl rfl rfl ?_ ?_
       ·exact Qc rfl rfl (Qm rfl)
       refine Q3 rfl rfl rfl rfl ?_ ?_
       ·refine QI rfl rfl rfl (Qv (by omega) (by omega)) ?_
        exact Qm rfl
       exact AllF.nil
      ·refine Xm rfl rfl rfl (by rfl) rfl ?_
       refine WpL.nil ⟨rfl, rfl, ?_⟩
       apply GoR.nil [⟨13, 5, _, [0, 1, 2, 3, 4, 5, 6, 7, 8, 9, 10, 11, 12], false⟩, ⟨14, 6, _, [0, 1, 2, 3, 4, 5, 6, 7, 8, 9, 10, 11, 12, 13], false⟩] (.inl ⟨_, .nil⟩) rfl rfl
       ·refine AllF.cons rfl rfl rfl rfl ?_ ?_
        ·exact Qe rfl rfl (Qm rfl)
        refine AllF.cons rfl rfl rfl rfl ?_ ?_
        ·exact Qe rfl rfl (Qm rfl)
        exact AllF.nil
       ·refine Qi ?_
        apply RetQ.mk
        ·exact (XJ rfl rfl (by rfl) rfl rfl)
        ·exact ⟨a3, c3, by rw [parF_r (out := out) hPd (by omega) (by simpa using hrf)]; try rfl, rfl⟩
        ·rw [parF_r (out := out) hPd (by omega) (by simpa using hrf)]
         exact Take.ent' (by repeat' constructor)
  ·apply Q8 (fB := []) mixed [(5, false)] (by kernel_rfl)
   apply Q4 [⟨0, 37, _, [], false⟩, ⟨1, 38, _, [], false⟩, ⟨2, 39, _, [0, 1], false⟩, ⟨3, 40, _, [2], false⟩, ⟨4, 41, _, [], false⟩] [] [0, 1, 2, 3, 4] [36, 43, 44, 45, 10, 11, 9] (.inr rfl) rfl rfl rfl (by kernel_rfl) rfl rfl rfl
   ·refine AllF.cons rfl rfl rfl rfl ?_ ?_
    ·exact Qc rfl rfl (Qm rfl)
    refine AllF.cons rfl rfl rfl rfl ?_ ?_
    ·exact Qc rfl rfl (Qm rfl)
    refine AllF.cons rfl rfl rfl rfl ?_ ?_
    ·refine s_sll_l (L := nn) rfl rfl rfl (by omega) (by omega) ?_
     rw [show bs.length - nn = (bs.drop nn).length from List.length_drop.symm]
     exact Qm rfl
    refine AllF.cons rfl rfl rfl rfl ?_ ?_
    ·refine s_b2sR rfl Tryz.underlying22 Tryz.underlying5 Tryz.underlying9 rfl hAy (by exact Take.ent' (by repeat' constructor)) rfl ?_
     exact Qm rfl
    refine AllF.cons rfl rfl rfl rfl ?_ ?_
    ·refine QD (vs := [_, _, _, _]) rfl rfl rfl (by rfl) ?_
     exact Qm rfl
    exact AllF.nil
   ·refine Qh rfl rfl (by repeat' constructor) (Read_spec (strOfNums (bs.drop nn)) (by rw [YG]; omega) K (Wn : Int) (Hn : Int) M) ?_
    rintro _ _ ⟨out, i, x, a3, c3, hrd, rfl, rfl⟩
    simp only [Qq]
    rw [Y2 hbd] at hrd
    have hib := readS_i (K := K) (W := (Wn : Int)) (H := (Hn : Int)) (M := M) (bs.drop nn)
    rw [← hrd] at hib
    dsimp only at hib
    refine WpL.nil ⟨rfl, rfl, ?_⟩
    apply GoR.nil [⟨6, 36, _, [5], false⟩, ⟨7, 43, _, [6], false⟩, ⟨8, 44, _, [6], false⟩, ⟨9, 45, _, [6], false⟩, ⟨10, 10, _, [0, 1, 2, 3, 4, 5, 6, 7], false⟩, ⟨11, 11, _, [0, 1, 2, 3, 4, 5, 6, 7, 8, 10], false⟩, ⟨12, 9, _, [0, 1, 2, 3, 4, 5, 6, 7, 8, 9, 10, 11], false⟩] (.inr rfl) rfl rfl
    ·refine AllF.cons rfl rfl rfl rfl ?_ ?_
     ·exact Qc rfl rfl (Qm rfl)
     refine AllF.cons rfl rfl rfl rfl ?_ ?_
     ·exact QF rfl rfl rfl (Qm rfl)
     refine AllF.cons rfl rfl rfl rfl ?_ ?_
     ·exact QF rfl rfl rfl (Qm rfl)
     refine AllF.cons rfl rfl rfl rfl ?_ ?_
     ·exact QF rfl rfl rfl (Qm rfl)
     refine AllF.cons rfl rfl rfl rfl ?_ ?_
     ·exact Qe rfl rfl (Qm rfl)
     refine AllF.cons rfl rfl rfl rfl ?_ ?_
     ·exact Qe rfl rfl (Qm rfl)
     refine AllF.cons rfl rfl rfl rfl ?_ ?_
     ·exact Qe rfl rfl (Qm rfl)
     exact AllF.nil
    ·refine Qb (Qb (Qa (Qc rfl rfl (Xf rfl rfl rfl (WpL.nil (Qn rfl (fun h2 => ?_) (fun h2 => ?_)))))))
     ·refine Qb (Qa ?_)
      refine Yt rfl rfl ?_
      refine Qc rfl rfl ?_
      refine Xm rfl rfl rfl (by rfl) rfl ?_
      refine Qe rfl rfl (Qe rfl rfl (WpL.nil (Qi ?_)))
      apply RetQ.mk
      ·exact (XJ rfl rfl (by rfl) rfl rfl)
      ·exact ⟨none, 0, by rw [parF_pe hPd (by omega) (by simpa using hrd.symm) (by assumption)]; rfl, rfl⟩
      ·rw [parF_pe hPd (by omega) (by simpa using hrd.symm) (by assumption)]
       exact Ent.own_nil (Take.ent' (by repeat' constructor))
     ·obtain rfl : x = 0 := Classical.not_not.1 h2
      refine Wp.skip (Qb ?_)
      apply Q8 (fB := []) mixed [(12, false)] (by kernel_rfl)
      apply Q4 [⟨0, 50, _, [], false⟩, ⟨1, 51, _, [0], false⟩, ⟨2, 52, _, [], false⟩, ⟨3, 53, _, [2], false⟩, ⟨4, 54, _, [], false⟩, ⟨5, 55, _, [4], false⟩, ⟨6, 56, _, [], false⟩, ⟨7, 57, _, [3, 5, 6], false⟩, ⟨8, 58, _, [1, 7], false⟩, ⟨9, 59, _, [], true⟩, ⟨10, 60, _, [], true⟩, ⟨11, 61, _, [9, 10], true⟩] [] [0, 1, 2, 3, 4, 5, 6, 7, 8] [5, 6, 59, 60, 61] (.inl ⟨_, .nil⟩) rfl rfl rfl (by kernel_rfl) rfl rfl rfl
      ·refine AllF.cons rfl rfl rfl rfl ?_ ?_
       ·refine QD (vs := [_, _, _, _]) rfl rfl rfl (by rfl) ?_
        exact Qm rfl
       refine AllF.cons rfl rfl rfl rfl ?_ ?_
       ·refine Qh rfl rfl (by repeat' constructor) (Xb _ _ _ _ (by omega)) ?_
        rintro _ _ ⟨rfl, rfl⟩
        simp only [Qq]
        exact WpL.nil ⟨rfl, rfl, rfl, by exact Ent.refl _⟩
       refine AllF.cons rfl rfl rfl rfl ?_ ?_
       ·exact Qj (o2 := 1) rfl rfl rfl (Qm rfl)
       refine AllF.cons rfl rfl rfl rfl ?_ ?_
       ·refine Qo rfl rfl (by rfl) ?_
        exact Qm rfl
       refine AllF.cons rfl rfl rfl rfl ?_ ?_
       ·exact Qj (o2 := 2) rfl rfl rfl (Qm rfl)
       refine AllF.cons rfl rfl rfl rfl ?_ ?_
       ·refine Qo rfl rfl (by rfl) ?_
        exact Qm rfl
       refine AllF.cons rfl rfl rfl rfl ?_ ?_
       ·exact Qc rfl rfl (Qm rfl)
       refine AllF.cons rfl rfl rfl rfl ?_ ?_
       ·refine Yt rfl rfl ?_
        exact Qm rfl
       refine AllF.cons rfl rfl rfl rfl ?_ ?_
       ·refine Yt rfl rfl ?_
        exact Qm rfl
       refine Q3 rfl rfl rfl rfl ?_ ?_
       ·exact Qc rfl rfl (Qm rfl)
       refine Q3 rfl rfl rfl rfl ?_ ?_
       ·exact Qc rfl rfl (Qm rfl)
       refine Q3 rfl rfl rfl rfl ?_ ?_
       ·refine QI rfl rfl rfl (Qv (by omega) (by omega)) ?_
        exact Qm rfl
       exact AllF.nil
      ·refine Xm rfl rfl rfl (by rfl) rfl ?_
       refine WpL.nil ⟨rfl, rfl, ?_⟩
       apply GoR.nil [⟨13, 5, _, [0, 1, 2, 3, 4, 5, 6, 7, 8, 9, 10, 11, 12], false⟩, ⟨14, 6, _, [0, 1, 2, 3, 4, 5, 6, 7, 8, 9, 10, 11, 12, 13], false⟩] (.inl ⟨_, .nil⟩) rfl rfl
       ·refine AllF.cons rfl rfl rfl rfl ?_ ?_
        ·exact Qe rfl rfl (Qm rfl)
        refine AllF.cons rfl rfl rfl rfl ?_ ?_
        ·exact Qe rfl rfl (Qm rfl)
        exact AllF.nil
       ·refine Qi ?_
        apply RetQ.mk
        ·exact (XJ rfl rfl (by rfl) rfl rfl)
        ·exact ⟨a3, c3, by rw [parF_p (out := out) (i := i) hPd (by omega) (by simpa using hrd.symm)]; try rfl, rfl⟩
        ·rw [parF_p (out := out) (i := i) hPd (by omega) (by simpa using hrd.symm)]
         exact Take.ent' (by repeat' constructor)
 ·simp only [Qq]
  refine Qc rfl rfl (QF rfl rfl rfl (QF rfl rfl rfl (QF rfl rfl rfl (Yd rfl ?_))))
  intro gH
  refine Xm rfl rfl rfl (by rfl) rfl ?_
  refine Qe rfl rfl (Qe rfl rfl (WpL.nil (Qb (Qb (Qa (Qc rfl rfl (Xf rfl rfl rfl (WpL.nil (QG rfl hE (Qb (Qa ?_)))))))))))
  refine Yt rfl rfl ?_
  refine Qc rfl rfl ?_
  refine Xm rfl rfl rfl (by rfl) rfl ?_
  refine Qe rfl rfl (Qe rfl rfl (WpL.nil (Qi ?_)))
  apply RetQ.mk
  ·exact (XJ rfl rfl (by rfl) rfl rfl)
  ·exact ⟨none, 0, by rw [parF_e hPd hE]; rfl, rfl⟩
  ·rw [parF_e hPd hE]
   exact Ent.own_nil (Take.ent' (by repeat' constructor))

end Go.Proofs.YtggamdlpiejbiaaGreat
namespace Go.Proofs.YtggamdlpiejbiaaGreat
open Go.RowKit Go.Shelf


theorem liv_par0 : (Yj (Xh 4096) (Xi 65536) (Xj 65535) [80, 49, 32, 50, 32, 49, 32, 49, 32, 48, 32]).2 = (10, 0) ∧ (Yj (Xh 4096) (Xi 65536) (Xj 65535) [80, 49, 32, 50, 32, 49, 32, 49, 32, 48, 32]).1.c = 1 ∧ (Yj (Xh 4096) (Xi 65536) (Xj 65535) [80, 49, 32, 50, 32, 49, 32, 49, 32, 48, 32]).1.m = 1 ∧ (Yj (Xh 4096) (Xi 65536) (Xj 65535) [80, 49, 32, 50, 32, 49, 32, 49, 32, 48, 32]).1.w = 2 ∧ (Yj (Xh 4096) (Xi 65536) (Xj 65535) [80, 49, 32, 50, 32, 49, 32, 49, 32, 48, 32]).1.h = 1 ∧ (Yj (Xh 4096) (Xi 65536) (Xj 65535) [80, 49, 32, 50, 32, 49, 32, 49, 32, 48, 32]).1.px = [281474976710657, 281474976710656] := by decide +kernel
theorem liv_par : Yj (Xh 4096) (Xi 65536) (Xj 65535) [80, 49, 32, 50, 32, 49, 32, 49, 32, 48, 32] = (⟨1, 1, 2, 1, [281474976710657, 281474976710656]⟩, 10, 0) := by
  obtain ⟨h1, h2, h3, h4, h5, h6⟩ := liv_par0
  generalize Yj (Xh 4096) (Xi 65536) (Xj 65535) [80, 49, 32, 50, 32, 49, 32, 49, 32, 48, 32] = q at *
  obtain ⟨⟨c, m, w, h, px⟩, n, e⟩ := q
  simp_all
theorem liv_wr : wrI ⟨1, 1, 2, 1, [281474976710657, 281474976710656]⟩ 4 = [80, 52, 10, 50, 32, 49, 10, 128] := by decide +kernel
theorem liv_kd : (4 : Int) ∈ QL 1 1 := by rw [kindsF_1 (by unfold Yf; omega) (by decide) rfl]; decide
theorem liv_ft : Ym 1 1 2 1 [281474976710657, 281474976710656] := by decide +kernel

theorem lives10_spec  : Fn Tryz.prog 37 #[] [] (fun v l => v = .bool true ∧ l = []) := by
 refine Ql (vs := []) Tryz.func37 rfl Tryz.ntmps37 rfl (Qb (Qa (Qe rfl rfl (WpL.nil (Qb (Qa ?_))))))
 refine s_bs (os := [(0, .const (.int .u8 80)), (1, .const (.int .u8 49)), (2, .const (.int .u8 32)), (3, .const (.int .u8 50)), (4, .const (.int .u8 32)), (5, .const (.int .u8 49)), (6, .const (.int .u8 32)), (7, .const (.int .u8 49)), (8, .const (.int .u8 32)), (9, .const (.int .u8 48)), (10, .const (.int .u8 32))]) [.int .u8 80, .int .u8 49, .int .u8 32, .int .u8 50, .int .u8 32, .int .u8 49, .int .u8 32, .int .u8 49, .int .u8 32, .int .u8 48, .int .u8 32] rfl rfl rfl (by simp [Value.cells]) (by decide) (fun a hh => rfl) ?_
 intro g7
 refine s_b2b rfl Tryz.underlying22 Tryz.underlying5 rfl (by repeat' constructor) ?_
 refine Qh rfl rfl (by repeat' constructor) (hdAll_spec) ?_
 rintro _ _ ⟨rfl, rfl⟩
 simp only [Qq]
 refine Qh rfl rfl (by repeat' constructor) (iParse_spec (cvR 5 g7 11 (Xa [80, 49, 32, 50, 32, 49, 32, 49, 32, 48, 32])) (some ⟨g7, 0, none⟩) 11 [80, 49, 32, 50, 32, 49, 32, 49, 32, 48, 32] RdsL.cvR (by decide) (by decide) (by decide) 4096 65536 65535) ?_
 rintro _ _ ⟨aR, cR, rfl, rfl⟩
 simp only [Qq]
 rw [liv_par]
 dsimp only
 refine WpL.ownLe (T := 92) (s := 1) (a := aR) (c := cR) (by repeat' constructor) (fun hcr => ?_)
 refine Qc rfl rfl (QF rfl rfl rfl (QF rfl rfl rfl (QF rfl rfl rfl (Yd rfl ?_))))
 intro gM
 refine Xm rfl rfl rfl (by rfl) rfl ?_
 refine Qe rfl rfl (Qe rfl rfl (WpL.nil (Qb (Qa ?_))))
 refine QD (vs := [_, _, _, _, _]) rfl rfl rfl (by rfl) ?_
 refine Qh rfl rfl (by repeat' constructor) (iWriteN_spec (QH 92 1 aR cR 2 (XG [281474976710657, 281474976710656])) 1 1 2 1 aR cR [281474976710657, 281474976710656] QM (by decide) hcr (by decide) 4) ?_
 intro v0 m0 hN0
 rcases hN0 with ⟨hT1, hT2, gW, cW, rfl, rfl⟩ | ⟨hT, rfl, rfl⟩
 ·simp only [Qq]
  refine Qc rfl rfl (QF rfl rfl rfl (QF rfl rfl rfl (Qe rfl rfl (Qe rfl rfl (WpL.nil (Qb (Qa (Qc rfl rfl (QK rfl rfl rfl (Qc rfl rfl (Qr (dj := 21) rfl rfl ?_)))))))))))
  refine Qf rfl rfl (Qc rfl rfl (Qf rfl rfl (QK rfl rfl rfl (Qz rfl rfl rfl (Qc rfl rfl (Qr (dj := 25) rfl rfl ?_))))))
  refine Qf rfl rfl (Qc rfl rfl (Qf rfl rfl (QK rfl rfl rfl (Qz rfl rfl rfl (Qc rfl rfl (Qr (dj := 29) rfl rfl ?_))))))
  refine Qf rfl rfl (Qc rfl rfl (Qf rfl rfl (s_b2sR rfl Tryz.underlying22 Tryz.underlying5 Tryz.underlying9 rfl (RdsL.rdo (g := gW) (xs := Xa (wrI ⟨1, 1, 2, 1, [281474976710657, 281474976710656]⟩ 4))) (by exact Take.ent' (by repeat' constructor)) rfl ?_)))
  refine Qf rfl rfl ?_
  refine s_bs (os := [(0, .const (.int .u8 80)), (1, .const (.int .u8 52)), (2, .const (.int .u8 10)), (3, .const (.int .u8 50)), (4, .const (.int .u8 32)), (5, .const (.int .u8 49)), (6, .const (.int .u8 10)), (7, .const (.int .u8 128))]) [.int .u8 80, .int .u8 52, .int .u8 10, .int .u8 50, .int .u8 32, .int .u8 49, .int .u8 10, .int .u8 128] rfl rfl rfl (by simp [Value.cells]) (by decide) (fun a hh => rfl) ?_
  intro g32
  refine Qf rfl rfl (s_b2sR rfl Tryz.underlying22 Tryz.underlying5 Tryz.underlying9 rfl (RdsL.blk (g := g32) (o := 0) (T := 5) (cs := Xa [80, 52, 10, 50, 32, 49, 10, 128]) (xs := Xa [80, 52, 10, 50, 32, 49, 10, 128]) rfl) (by exact Take.ent' (by repeat' constructor)) rfl ?_)
  refine Qf rfl rfl (s_seq rfl rfl rfl (Qz rfl rfl rfl (Qe rfl rfl (WpL.nil (Qi ?_)))))
  apply RetQ.mk
  ·exact (Res.one rfl rfl)
  ·exact ⟨congrArg Value.bool (decide_eq_true (by have q := liv_wr; exact congrArg strOfNums q)), rfl⟩
  ·exact Ent.nil _
 ·simp only [Qq]
  exfalso
  exact hT ⟨liv_kd, liv_ft⟩

end Go.Proofs.YtggamdlpiejbiaaGreat
