/- Walks and plain laws, a part of the proof of ImageCuts: every input that the law's guards let in, no condition beside. -/
import Derived.ArgAppend
import Derived.Test.YtggamdlpiejbiaaGreatM27
namespace Go.Proofs.YtggamdlpiejbiaaGreat
open Go.RowKit Go.Shelf
/-- The row of a text that became bytes. -/
def cvR (e g c : Nat) (xs : List Value) : HP where
  p w S := (∀ b, S b ↔ b = g) ∧ ∃ cur : Array Value, w.heap[g]? = some (.cells cur e (cur.size, cur.size + 1)) ∧ cur.size = c ∧ xs.length ≤ c ∧ cur.toList.take xs.length = xs
  loc := fun ⟨hs, cur, h, r⟩ _ hb => ⟨hs, cur, (hb g ((hs g).2 rfl)).trans h, r⟩
  lt := fun ⟨hs, cur, h, _⟩ b hb => by rw [(hs b).1 hb]; exact (Array.getElem?_eq_some_iff.1 h).1
theorem setCells_chg (b : Nat) : ∀ (vs : List Value) (o : Nat) (w : World), (w.setCells b o vs).os = w.os ∧ (w.setCells b o vs).tape = w.tape ∧ (w.setCells b o vs).output = w.output ∧ (w.setCells b o vs).heap.size = w.heap.size ∧ ∀ k, k ≠ b → (w.setCells b o vs).heap[k]? = w.heap[k]?
  | [], _, _ => ⟨rfl, rfl, rfl, rfl, fun _ _ => rfl⟩
  | v :: r, o, w => by
    obtain ⟨h1, h2, h3, h4, h5⟩ := setCells_chg b r (o + 1) (w.setCell ⟨b, o, none⟩ v)
    have e : ∀ k, k ≠ b → (w.setCell ⟨b, o, none⟩ v).heap[k]? = w.heap[k]? := fun k hk => by
      simp [World.setCell, Array.getElem?_modify, Ne.symm hk]
    refine ⟨h1.trans ?_, h2.trans ?_, h3.trans ?_, h4.trans ?_, fun k hk => (h5 k hk).trans (e k hk)⟩
    all_goals simp [World.setCell]
section
variable {P : Program} {n : Cx} {D : List Deferred} {ops : Array Oper} {rest : List Oper} {Q : Post} {fr : Fr} {l : List HP} {ty : Nat} {pos : String} {aft : Array Edge}
theorem out_bytesC {w : World} {U : Nat → Prop} (h : Sat w l U) (e : Nat) (s : ByteArray) : Out (cvR e w.heap.size (Lib.bytesCells w e s).size (Xt (QJ s)) :: l) U w (Lib.bytesWorld w e s) := by
  have hb := bytes_below w e s
  have h2 : Sat (Lib.bytesWorld w e s) l (fun b => U b ∧ b < w.heap.size) := h.inside.keep hb.size fun b _ hlt => hb.block b hlt
  refine ⟨⟨fun b => b = w.heap.size, ⟨fun _ => Iff.rfl, _, Lib.bytesWorld_at_new w e s, rfl, ?_, ?_⟩, fun b hb => .inr (Nat.le_of_eq hb.symm), h2.mono fun b hb => ⟨.inl hb.1, fun e => ?_⟩⟩, .of_below hb⟩
  · rw [Xi, QZ]; simp [Lib.bytesCells]
  · rw [Xi, QZ]
    apply List.ext_getElem?
    intro j
    by_cases hj : j < s.size
    · rw [List.getElem?_take, if_pos hj, YW _ (by rw [QZ]; exact hj), bsOf_at hj]
      simp only [Lib.bytesCells, Array.toList_append, Array.toList_map]
      rw [List.getElem?_append_left (by simpa using hj), List.getElem?_map]
      have e1 : s.data.toList[j]? = some s[j] := by rw [List.getElem?_eq_getElem (by simpa using hj)]; rfl
      rw [e1]; rfl
    · rw [List.getElem?_take, if_neg hj, List.getElem?_eq_none (by rw [Xi, QZ]; omega)]
  · rw [e] at hb; exact absurd hb.2 (Nat.lt_irrefl _)
theorem s_t2bc {d T1 T2 e : Nat} {x : Operand} {s : ByteArray} (hd : Nat.blt d n = true) (h1 : P.underlying T1 = some .string) (h2 : P.underlying T2 = some (.slice e)) (h3 : P.underlying e = some (.int .u8)) (hx : ev fr x = some (.string s))
    (k : ∀ g c, WpL P n D ops rest Q ((d, .slice (some ⟨g, 0, none⟩) (QJ s).length c) :: fr) (cvR e g c (Xt (QJ s)) :: l)) : WpL P n D ops (⟨some d, .convert T1 T2 x, ty, pos, aft, none⟩ :: rest) Q fr l :=
  X2 hd (σ := Nat × Nat) (fun q => .slice (some ⟨q.1, 0, none⟩) (QJ s).length q.2) (fun q => cvR e q.1 q.2 (Xt (QJ s)) :: l) (fun a w U hh hs => ⟨(w.heap.size, (Lib.bytesCells w e s).size), _, by
    have hg : (Lib.bytesCells w e s).size = grownCap w s.size 0 e := by simp [Lib.bytesCells]; have := grownCap_ge w s.size 0 e; omega
    rw [QZ, hg]; simp [execOp, hh.ev hx, Lib.run_convert_string_bytes w T1 T2 e s h1 h2 h3], out_bytesC hs e s⟩) fun q => k q.1 q.2
theorem cvR_cells {w : World} {S : Nat → Prop} {e g c : Nat} {xs : List Value} (h : (cvR e g c xs).p w S) (j : Nat) (u : Value) (hu : xs[j]? = some u) : w.cell? ⟨g, j, none⟩ = some u := by
  obtain ⟨_, cur, hg, _, hl, ht⟩ := h
  rw [cell_of_row w g j cur e _ hg]
  rw [← ht, List.getElem?_take] at hu
  split at hu
  · simpa using hu
  · cases hu
/-- append(s, t...), s a text's bytes. -/
theorem s_appC {d t e by_ : Nat} {z : Value} {x y : Operand} {a2 : Option Addr} {g c m c2 m2 : Nat} {xs ys : List Value} {As F : List HP} (hd : Nat.blt d n = true) [ht : SlT P t e 1 by_ z] (hx : ev fr x = some (.slice (some ⟨g, 0, none⟩) m c)) (hy : ev fr y = some (.slice a2 m2 c2))
    (htk : Take l [cvR e g c xs] F) (hA : RdsL As a2 ys) (he : Ent F As) (hlx : xs.length = m) (hl : ys.length = m2) (hz : z.cells.size = 1) (h1 : ∀ u ∈ ys, u.oneCell' = true) (hb : (m + m2) * by_ ≤ 140737488355328) (hm : m + m2 ≤ 140737488355328)
    (k : ∀ g' c', WpL P n D ops rest Q ((d, .slice (some ⟨g', 0, none⟩) (m + m2) c') :: fr) (rdo g' (xs ++ ys) :: F)) : WpL P n D ops (⟨some d, .call ⟨.builtin .append, #[x, y], #[t, t]⟩, ty, pos, aft, none⟩ :: rest) Q fr l := by
  refine X2 (σ := Nat × Nat) hd (fun p => .slice (some ⟨p.1, 0, none⟩) (m + m2) p.2) (fun p => rdo p.1 (xs ++ ys) :: F) (fun A w U hh hs' => ?_) (fun p => k p.1 p.2)
  have h2 := htk.ent w U hs'
  obtain ⟨S, hp, hSU, hF⟩ := id h2
  obtain ⟨hS, cur, hg, hc, hlc, htake⟩ := id hp
  obtain ⟨i0, hi, hz0, hz1, hz2⟩ := info_parts ht.hi
  have hRA := hA w _ (he w _ hF)
  have hgl : g < w.heap.size := (Array.getElem?_eq_some_iff.1 hg).1
  cases a2 with
  | none =>
    have hy0 : ys = [] := by
      cases ys with
      | nil => rfl
      | cons q qs => exact absurd (hRA.1 (by simp)) (by simp)
    subst hy0
    have hm0 : m2 = 0 := hl.symm
    subst hm0
    refine ⟨(g, c), w, ?_, ⟨⟨S, ⟨hS, hgl, fun j u hu => cvR_cells hp j u (by simpa using hu)⟩, fun b hb => .inl (hSU b hb), hF.mono fun b hb => ⟨.inl hb.1, hb.2⟩⟩, .refl _ _⟩⟩
    have hle : m ≤ c := by omega
    simp [execOp, resolve, invoke, builtin, hh.ev hx, hh.ev hy, Builtin.append_, run_underlying ht.hu, sizeOf, typeInfo, hi, Builtin.lenOf, hle, Builtin.firstCells, storeCells]
  | some ad =>
    have hnew : ∀ j u, ys[j]? = some u → w.cell? (ad.add j) = some u := fun j u hu => hRA.2 ad rfl j u hu
    by_cases hroom : m + m2 ≤ c
    · have hcell : ∀ j, j < ys.length → (w.cell? ⟨g, 0 + m * i0.size + j, none⟩).isSome = true := fun j hj => by
        rw [cell_of_row w g _ cur e _ hg, hz1]
        simp; omega
      have hfr : ∀ j, j < ys.length → w.frozen? ⟨g, 0 + m * i0.size + j, none⟩ = false := fun j hj => by
        unfold World.frozen?
        simp only [hg, hz1]
        simp; omega
      have hr := run_append_room_cells (P := P) w t ty e i0 ht.hu hi g 0 m c ad m2 c2 ys (by rw [hz1, hl]; omega) hnew h1 hroom hcell hfr
      have hch := setCells_chg g ys (0 + m * i0.size) w
      have hm1 : 0 + m * i0.size = m := by rw [hz1]; omega
      rw [hm1] at hr hch hcell
      refine ⟨(g, c), w.setCells g m ys, by simp [execOp, resolve, invoke, builtin, hh.ev hx, hh.ev hy, hr], ⟨S, ⟨hS, by rw [hch.2.2.2.1]; exact hgl, fun j u hu => ?_⟩, fun b hb => .inl (hSU b hb), ?_⟩, ⟨hch.1, hch.2.1, hch.2.2.1, by rw [hch.2.2.2.1]; exact Nat.le_refl _, fun b _ hnb => hch.2.2.2.2 b fun e => hnb (hSU b ((hS b).2 e))⟩⟩
      · by_cases hj : j < xs.length
        · rw [World.cell?_setCells_out g ys m w ⟨g, j, none⟩ (fun _ _ => .inl (by simp only; omega))]
          rw [List.getElem?_append_left hj] at hu
          exact cvR_cells hp j u hu
        · rw [List.getElem?_append_right (by omega)] at hu
          obtain ⟨hj2, hu2⟩ := List.getElem?_eq_some_iff.1 hu
          have := World.cell?_setCells_in g ys m w hcell (j - xs.length) hj2
          rw [show m + (j - xs.length) = j by omega, hu2] at this
          exact this
      · have hk : Sat (w.setCells g m ys) F (fun b => (U b ∧ ¬ S b) ∧ b < w.heap.size) := hF.inside.keep (by rw [hch.2.2.2.1]; exact Nat.le_refl _) fun b hb _ => hch.2.2.2.2 b fun e => hb.1.2 ((hS b).2 e)
        exact hk.mono fun b hb => ⟨.inl hb.1.1, hb.1.2⟩
    · obtain ⟨v', w', hr, hown, hgrown⟩ := run_append_arg_grows (P := P) w t ty e i0 z 1 by_ ht.hu hi hz0 hz1 hz2 hz (by decide) ⟨g, 0, none⟩ m c xs (by omega) (fun j u hu => by rw [Vf, Nat.zero_add]; exact cvR_cells hp j u hu) ad m2 c2 ys (by omega) hnew (by omega) (by unfold maxLen; omega) hb
      rcases hown.2 with ⟨_, h0⟩ | ⟨g', cap, cur', rfl, hg0, hg', hcap, hmx, hcs, htk'⟩
      · omega
      · have hblk : ∀ b, b < w.heap.size → w'.heap[b]? = w.heap[b]? := fun b hb => hgrown.block b hb (by simp)
        refine ⟨(g', cap), w', by simp [execOp, resolve, invoke, builtin, hh.ev hx, hh.ev hy, hr], ⟨fun b => b = g', ⟨fun _ => Iff.rfl, (Array.getElem?_eq_some_iff.1 hg').1, fun j u hu => ?_⟩, fun b hb => .inr (by rw [hb]; exact hg0), ?_⟩, ⟨hgrown.os, hgrown.tape, hgrown.output, hgrown.size, fun b hb _ => hblk b hb⟩⟩
        · rw [cell_of_row w' g' j cur' e _ hg']
          rw [← htk', List.getElem?_take] at hu
          split at hu
          · simpa using hu
          · cases hu
        · have hk : Sat w' F (fun b => (U b ∧ ¬ S b) ∧ b < w.heap.size) := hF.inside.keep hgrown.size fun b _ hlt => hblk b hlt
          exact hk.mono fun b hb => ⟨.inl hb.1.1, fun e => by rw [e] at hb; exact absurd hb.2 (Nat.not_lt.2 hg0)⟩
/-- []byte(b) of a row of bytes: the row itself, marked. -/
theorem s_b2b {d T e g m : Nat} {x : Operand} {cs : List Value} {F : List HP} (hd : Nat.blt d n = true) (h1 : P.underlying T = some (.slice e)) (h2 : P.underlying e = some (.int .u8)) (hx : ev fr x = some (.slice (some ⟨g, 0, none⟩) m m)) (htk : Take l [QK g cs e] F)
    (k : WpL P n D ops rest Q ((d, .slice (some ⟨g, 0, none⟩) m m) :: fr) (cvR e g cs.length cs :: F)) : WpL P n D ops (⟨some d, .convert T T x, ty, pos, aft, none⟩ :: rest) Q fr l := by
  refine X2 (σ := Unit) hd (fun _ => .slice (some ⟨g, 0, none⟩) m m) (fun _ => cvR e g cs.length cs :: F) (fun A w U hh hs' => ?_) (fun _ => k)
  have h3 := htk.ent w U hs'
  obtain ⟨S, ⟨hS, hg⟩, hSU, hF⟩ := h3
  have hsh : w.shape? g = some (e, cs.length) := by simp [World.shape?, hg]
  have hat : (w.freeze ⟨g, cs.length, none⟩ 1).heap[g]? = some (.cells cs.toArray e (cs.length, cs.length + 1)) := by
    have hlt := (Array.getElem?_eq_some_iff.1 hg).1
    simp [World.freeze, Array.getElem?_modify, hg]
  have hot : ∀ b, b ≠ g → (w.freeze ⟨g, cs.length, none⟩ 1).heap[b]? = w.heap[b]? := fun b hb => by
    simp [World.freeze, Array.getElem?_modify, Ne.symm hb]
  have hsz : (w.freeze ⟨g, cs.length, none⟩ 1).heap.size = w.heap.size := by simp [World.freeze]
  refine ⟨(), w.freeze ⟨g, cs.length, none⟩ 1, ?_, ⟨S, ⟨hS, cs.toArray, by simpa using hat, by simp, Nat.le_refl _, by simp⟩, fun b hb => .inl (hSU b hb), ?_⟩, ⟨by simp [World.freeze], by simp [World.freeze], by simp [World.freeze], by rw [hsz]; exact Nat.le_refl _, fun b _ hnb => hot b fun q => hnb (hSU b ((hS b).2 q))⟩⟩
  · simp [execOp, hh.ev hx, convert, run_underlying h1, run_underlying h2, markStringish, hsh]
  · have hk : Sat (w.freeze ⟨g, cs.length, none⟩ 1) F (fun b => (U b ∧ ¬ S b) ∧ b < w.heap.size) := hF.inside.keep (by rw [hsz]; exact Nat.le_refl _) fun b hb _ => hot b fun q => hb.1.2 ((hS b).2 q)
    exact hk.mono fun b hb => ⟨.inl hb.1.1, hb.1.2⟩
theorem RdsL.cvR {e g c : Nat} {xs : List Value} : RdsL [Go.Proofs.YtggamdlpiejbiaaGreat.cvR e g c xs] (some ⟨g, 0, none⟩) xs := by
  intro w U ⟨S, hp, _⟩
  refine ⟨fun _ => rfl, fun ad had j u hu => ?_⟩
  injection had with had
  subst had
  rw [Vf, Nat.zero_add]
  exact cvR_cells hp j u hu
end
end Go.Proofs.YtggamdlpiejbiaaGreat
namespace Go.Proofs.YtggamdlpiejbiaaGreat
open Go.RowKit Go.Shelf


theorem tk_may {C M W H k : Int} {px : List Int} (h : k ∈ Q4 C M ∧ YJ C M W H px) : XG k W H M ∧ (∀ p ∈ px, Yw p (QR k) M) ∧ (px.length : Int) = W * H ∧ px.length ≤ 16777216 := by
  obtain ⟨hf, hk6, hc, h1⟩ := kinds_mem h.1
  obtain ⟨⟨hw, hh, hs⟩, hl, hp⟩ := h.2
  have hm := hf.2
  exact ⟨⟨hk6, hw, hh, hm, h1⟩, fun p hpp => by rw [hc]; exact hp p hpp, hl, by omega⟩
theorem iHead_alt (As : List HP) (C M W H : Int) (a : Option Addr) (c : Nat) (px : List Int) (hA : RdsL As a (XQ px)) (hb : ∀ p ∈ px, 0 ≤ p ∧ p < 18446744073709551616) (hl : px.length ≤ 9223372036854775807) (k : Int) : Fn Tryz.prog 49 #[.agg #[.int .i64 C, .int .i64 M, .int .i64 W, .int .i64 H, .slice a px.length c], .int .i64 k] As (fun v l => ((k ∈ Q4 C M ∧ YJ C M W H px) ∧ v = .tuple #[.agg #[.int .i64 k, .int .i64 W, .int .i64 H, .int .i64 M], .int .i64 0] ∧ l = As) ∨ (¬ (k ∈ Q4 C M ∧ YJ C M W H px) ∧ v = .tuple #[.agg #[.int .i64 0, .int .i64 0, .int .i64 0, .int .i64 0], .int .i64 1] ∧ l = As)) := by
  refine (iHead_spec As C M W H a c px hA hb hl k).mono ?_
  rintro v l ⟨⟨h, rfl⟩ | ⟨h, rfl⟩, rfl⟩
  · exact ⟨_, .inl ⟨h, rfl, rfl⟩, Ent.refl _⟩
  · exact ⟨_, .inr ⟨h, rfl, rfl⟩, Ent.refl _⟩

theorem iWrP_spec (A0 : HP) (gI gH : Nat) (C M k : Int) (Wn Hn : Nat) (a : Option Addr) (c : Nat) (px : List Int) (hA : RdsL [A0] a (XQ px)) (hb : ∀ p ∈ px, 0 ≤ p ∧ p < 18446744073709551616) (hcap : px.length ≤ c) (hT : k ∈ Q4 C M ∧ YJ C M (Wn : Int) (Hn : Int) px) (hk : k < 4) : Fn Tryz.prog 88 #[.pointer (some ⟨gI, 0, none⟩), .pointer (some ⟨gH, 0, none⟩)] [QK gI [.int .i64 C, .int .i64 M, .int .i64 (Wn : Int), .int .i64 (Hn : Int), .slice a px.length c] 79, QK gH [.int .i64 k, .int .i64 (Wn : Int), .int .i64 (Hn : Int), .int .i64 M] 98, A0] (fun v l => ∃ gB cB, v = .slice (some ⟨gB, 0, none⟩) (ZI k (Wn : Int) 0 px).length cB ∧ l = [rdo gB (Xt (ZI k (Wn : Int) 0 px)), QK gI [.int .i64 C, .int .i64 M, .int .i64 (Wn : Int), .int .i64 (Hn : Int), .slice a px.length c] 79, QK gH [.int .i64 k, .int .i64 (Wn : Int), .int .i64 (Hn : Int), .int .i64 M] 98, A0]) := by
 obtain ⟨hMay, hfit, hpl, hp16⟩ := tk_may hT
 have hM2 := hMay
 unfold XG at hM2
 refine Ql (vs := [.pointer (some ⟨gI, 0, none⟩), .pointer (some ⟨gH, 0, none⟩)]) Tryz.func88 rfl Tryz.ntmps88 rfl ?_
 refine Qb (Qa (Qd rfl rfl (WpL.nil (Qb (Qa (Qk (o2 := 2) rfl rfl rfl (Qk (o2 := 4) rfl rfl rfl (Qn rfl rfl (by rfl) ?_))))))))
 refine Qw (vs := [_, _, _, _]) rfl rfl rfl (by rfl) ?_
 refine Qi rfl rfl (by repeat' constructor) (Write_ok A0 a c px hA hb (by omega) hcap k M Wn Hn ⟨hMay, by omega⟩) ?_
 rintro _ _ ⟨s8, e8, rfl, hs8, rfl⟩
 simp only [Qs]
 obtain ⟨_, rfl, hs8, hz8⟩ : WrP k (Wn : Int) (Hn : Int) M px ∧ e8 = 0 ∧ QJ s8 = (ZI k (Wn : Int) 0 px) ∧ s8.size ≤ px.length * 20 := by
  rcases hs8 with q | q
  ·exact q
  ·exact absurd (⟨⟨hMay, by omega⟩, hpl, hfit⟩ : WrP k (Wn : Int) (Hn : Int) M px) q.1
 refine Qc rfl rfl (QB rfl rfl rfl (QB rfl rfl rfl (Qd rfl rfl (Qd rfl rfl (WpL.nil (Qb (Qa (Qc rfl rfl (s_t2b rfl Tryz.underlying9 Tryz.underlying22 Tryz.underlying5 rfl ?_)))))))))
 intro gB cB
 rw [hs8]
 refine Qd rfl rfl (WpL.nil (Qh ?_))
 apply RetQ.mk
 ·exact (Res.one rfl rfl)
 ·exact ⟨gB, cB, rfl, rfl⟩
 ·exact Take.ent' (by repeat' constructor)

theorem iWrR_spec (A0 : HP) (gI gH : Nat) (C M k : Int) (Wn Hn : Nat) (a : Option Addr) (c : Nat) (px : List Int) (hA : RdsL [A0] a (XQ px)) (hb : ∀ p ∈ px, 0 ≤ p ∧ p < 18446744073709551616) (hcap : px.length ≤ c) (hT : k ∈ Q4 C M ∧ YJ C M (Wn : Int) (Hn : Int) px) (hk : 4 ≤ k) : Fn Tryz.prog 90 #[.pointer (some ⟨gI, 0, none⟩), .pointer (some ⟨gH, 0, none⟩)] [QK gI [.int .i64 C, .int .i64 M, .int .i64 (Wn : Int), .int .i64 (Hn : Int), .slice a px.length c] 79, QK gH [.int .i64 k, .int .i64 (Wn : Int), .int .i64 (Hn : Int), .int .i64 M] 98, A0] (fun v l => ∃ a9 c9, v = .slice a9 (Xl k Wn (Qg M) px Hn).length c9 ∧ (Xl k Wn (Qg M) px Hn).length ≤ 2000000000 ∧ l = [QX 5 1 a9 c9 (Xl k Wn (Qg M) px Hn).length (Xt (Xl k Wn (Qg M) px Hn)), QK gI [.int .i64 C, .int .i64 M, .int .i64 (Wn : Int), .int .i64 (Hn : Int), .slice a px.length c] 79, QK gH [.int .i64 k, .int .i64 (Wn : Int), .int .i64 (Hn : Int), .int .i64 M] 98, A0]) := by
 obtain ⟨hMay, hfit, hpl, hp16⟩ := tk_may hT
 have hM2 := hMay
 unfold XG at hM2
 have hpn : px.length = Wn * Hn := by exact_mod_cast hpl
 have hwl := Ya (K := k) (w := Qg M) (Q1 M) hpn (fun p hp => by have := ZZ (hfit p hp); omega) Hn (Nat.le_refl _)
 have hsb := XB (K := k) (W := Wn) (Q1 M) (by omega) (by omega)
 have hwl2 : (Xl k Wn (Qg M) px Hn).length ≤ 65536 * 24576 := by rw [hwl]; (rw [Nat.mul_comm]; exact Nat.mul_le_mul (by omega) hsb.2)
 refine Ql (vs := [.pointer (some ⟨gI, 0, none⟩), .pointer (some ⟨gH, 0, none⟩)]) Tryz.func90 rfl Tryz.ntmps90 rfl ?_
 refine Qb (Qa (Qd rfl rfl (WpL.nil (Qb (Qa (Qk (o2 := 2) rfl rfl rfl (Qk (o2 := 4) rfl rfl rfl (Qn rfl rfl (by rfl) ?_))))))))
 refine Qw (vs := [_, _, _, _]) rfl rfl rfl (by rfl) ?_
 refine Qi rfl rfl (by repeat' constructor) (RawWrite_spec A0 a c px hA hb hcap k Wn Hn M ⟨hMay, by omega⟩ hpn hfit) ?_
 rintro _ _ ⟨a9, c9, rfl, hc9, rfl⟩
 simp only [Qs]
 refine Qc rfl rfl (QB rfl rfl rfl (QB rfl rfl rfl (Qd rfl rfl (Qd rfl rfl (WpL.nil (Qb (Qa (Qc rfl rfl (Qd rfl rfl (WpL.nil (Qh ?_)))))))))))
 apply RetQ.mk
 ·exact (Res.one rfl rfl)
 ·exact ⟨a9, c9, rfl, by omega, rfl⟩
 ·exact Take.ent' (by repeat' constructor)

end Go.Proofs.YtggamdlpiejbiaaGreat
namespace Go.Proofs.YtggamdlpiejbiaaGreat
open Go.RowKit Go.Shelf


theorem hdW_lenH {K W H M : Int} (h : XG K W H M) : (hdW K W H M).length ≤ 400000 := by
  unfold XG at h
  have h1 := Yz K.toNat
  have h2 := Yz W.toNat
  have h3 := Yz H.toNat
  have h4 := Yz M.toNat
  unfold hdW
  simp only [List.length_append, List.length_cons, List.length_nil]
  split <;> simp only [List.length_append, List.length_cons, List.length_nil] <;> omega
theorem wrL_lenB {C M W H k : Int} {px : List Int} (h : k ∈ Q4 C M ∧ YJ C M W H px) (_hk : k < 4) : (ZI k W 0 px).length ≤ 1000000000 := by
  have h1 := (tk_may h).2.2.2
  have h2 := VI (K := k) (W := W) px 0
  omega

set_option maxHeartbeats 1000000 in
theorem iWriteN_spec (A0 : HP) (C M : Int) (Wn Hn : Nat) (a : Option Addr) (c : Nat) (px : List Int) (hA : RdsL [A0] a (XQ px)) (hb : ∀ p ∈ px, 0 ≤ p ∧ p < 18446744073709551616) (hcap : px.length ≤ c) (hpl : px.length ≤ 9223372036854775807) (k : Int) : Fn Tryz.prog 48 #[.agg #[.int .i64 C, .int .i64 M, .int .i64 (Wn : Int), .int .i64 (Hn : Int), .slice a px.length c], .int .i64 k] [A0] (fun v l => (k ∈ Q4 C M ∧ YJ C M (Wn : Int) (Hn : Int) px ∧ ∃ g c2, v = .tuple #[.slice (some ⟨g, 0, none⟩) (wrI ⟨C, M, (Wn : Int), (Hn : Int), px⟩ k).length c2, .int .i64 0] ∧ l = [rdo g (Xt (wrI ⟨C, M, (Wn : Int), (Hn : Int), px⟩ k)), A0]) ∨ (¬ (k ∈ Q4 C M ∧ YJ C M (Wn : Int) (Hn : Int) px) ∧ v = .tuple #[.slice none 0 0, .int .i64 1] ∧ l = [A0])) := by
 refine Ql (vs := [.agg #[.int .i64 C, .int .i64 M, .int .i64 (Wn : Int), .int .i64 (Hn : Int), .slice a px.length c], .int .i64 k]) Tryz.func48 rfl Tryz.ntmps48 rfl (Qb (Qa (Q2 rfl rfl rfl ?_)))
 intro gI
 refine Qd rfl rfl (Qd rfl rfl (WpL.nil (Qb (Qa ?_))))
 refine Qw (vs := [_, _, _, _, _]) rfl rfl rfl (by rfl) ?_
 refine Qc rfl rfl (Qi rfl rfl (by repeat' constructor) (iHead_alt [A0] C M (Wn : Int) (Hn : Int) a c px hA hb hpl k) ?_)
 intro v0 m0 hN0
 rcases hN0 with ⟨hT, rfl, rfl⟩ | ⟨hT, rfl, rfl⟩
 ·simp only [Qs]
  obtain ⟨hMay, hfit, hpl2, hp16⟩ := tk_may hT
  have hM2 := hMay
  unfold XG at hM2
  refine Qc rfl rfl (QB rfl rfl rfl (QB rfl rfl rfl (XH rfl ?_)))
  intro gH
  refine QC rfl rfl rfl (by rfl) rfl ?_
  refine Qd rfl rfl (WpL.nil (Qb (Qb (Qa (Qc rfl rfl (Xq rfl rfl rfl (WpL.nil (Qz rfl (fun h => h rfl) ?_))))))))
  refine Wp.skip (Qb (Qa ?_))
  refine Qw (vs := [_, _, _, _]) rfl rfl rfl (by rfl) ?_
  refine Qi rfl rfl (by repeat' constructor) (hWrite_spec _ _ _ _ hMay) ?_
  rintro _ _ ⟨s6, hs6, rfl, rfl⟩
  simp only [Qs]
  have hz6 := hdW_lenH hMay
  have hs6z : s6.size ≤ 400000 := by rw [← QZ, hs6]; exact hz6
  refine Qc rfl rfl (QB rfl rfl rfl (QB rfl rfl rfl (Qd rfl rfl (Qd rfl rfl (WpL.nil (Qb (Qa (s_mkf rfl (fun a hh => Ys hh _ _ rfl) ?_))))))))
  refine Qd rfl rfl (WpL.nil (Qb (Qb (Qa ?_))))
  refine Qw (vs := [_, _, _, _]) rfl rfl rfl (by rfl) ?_
  refine Qi rfl rfl (by repeat' constructor) (ZM _ _ _ _) ?_
  rintro _ _ ⟨rfl, rfl⟩
  simp only [Qs]
  refine WpL.nil (Qj rfl (fun h1 => ?_) (fun h1 => ?_))
  ·refine Qa (s_mkf rfl (fun a hh => Ys hh _ _ rfl) ?_)
   refine Qd rfl rfl (WpL.nil (Qb (Qa (Qc rfl rfl (s_t2bc rfl Tryz.underlying9 Tryz.underlying22 Tryz.underlying5 rfl ?_)))))
   intro g30 c30
   rw [hs6]
   refine Qc rfl rfl (Yv (u := []) (c := [.pointer (some ⟨gI, 0, none⟩), .pointer (some ⟨gH, 0, none⟩)]) rfl rfl rfl rfl (by repeat' constructor) (iWrR_spec A0 gI gH C M k Wn Hn a c px hA hb hcap hT (by omega)) ?_)
   rintro _ _ ⟨a9, c9, rfl, hz9, rfl⟩
   simp only [Qs]
   (refine s_appC rfl rfl rfl (by repeat' constructor) (Q0 (T := 5) (s := 1) (c := c9) (m := (Xl k Wn (Qg M) px Hn).length)) (by exact Take.ent' (by repeat' constructor)) (Xi _) (Xi _) (by rfl) (Ve _) (by omega) (by omega) ?_; intro g33 c33; rw [u8s_app, ← List.length_append, show hdW k (Wn : Int) (Hn : Int) M ++ (Xl k Wn (Qg M) px Hn) = (wrI ⟨C, M, (Wn : Int), (Hn : Int), px⟩ k) from (by unfold wrI; rw [if_neg (by omega)]; rfl)])
   refine Qd rfl rfl (Qd rfl rfl (WpL.nil (Qh ?_)))
   apply RetQ.mk
   ·exact (QM rfl rfl rfl)
   ·exact .inl ⟨hT.1, hT.2, g33, c33, rfl, rfl⟩
   ·exact Take.ent' (by repeat' constructor)
  ·refine Wp.skip (Qb (Qa (Qc rfl rfl (s_t2bc rfl Tryz.underlying9 Tryz.underlying22 Tryz.underlying5 rfl ?_))))
   intro g30 c30
   rw [hs6]
   refine Qc rfl rfl (Yv (u := []) (c := [.pointer (some ⟨gI, 0, none⟩), .pointer (some ⟨gH, 0, none⟩)]) rfl rfl rfl rfl (by repeat' constructor) (iWrP_spec A0 gI gH C M k Wn Hn a c px hA hb hcap hT (by omega)) ?_)
   rintro _ _ ⟨gB, cB, rfl, rfl⟩
   simp only [Qs]
   (have hz8 := wrL_lenB hT (by omega); refine s_appC rfl rfl rfl (by repeat' constructor) (RdsL.rdo (g := gB) (xs := Xt (ZI k (Wn : Int) 0 px))) (by exact Take.ent' (by repeat' constructor)) (Xi _) (Xi _) (by rfl) (Ve _) (by omega) (by omega) ?_; intro g33 c33; rw [u8s_app, ← List.length_append, show hdW k (Wn : Int) (Hn : Int) M ++ (ZI k (Wn : Int) 0 px) = (wrI ⟨C, M, (Wn : Int), (Hn : Int), px⟩ k) from (by unfold wrI; rw [if_pos (by omega)])])
   refine Qd rfl rfl (Qd rfl rfl (WpL.nil (Qh ?_)))
   apply RetQ.mk
   ·exact (QM rfl rfl rfl)
   ·exact .inl ⟨hT.1, hT.2, g33, c33, rfl, rfl⟩
   ·exact Take.ent' (by repeat' constructor)
 ·simp only [Qs]
  refine Qc rfl rfl (QB rfl rfl rfl (QB rfl rfl rfl (XH rfl ?_)))
  intro gH
  refine QC rfl rfl rfl (by rfl) rfl ?_
  refine Qd rfl rfl (WpL.nil (Qb (Qb (Qa (Qc rfl rfl (Xq rfl rfl rfl (WpL.nil (QY rfl (by decide) (Qb (Qa (Qc rfl rfl (Qd rfl rfl ?_))))))))))))
  refine Qd rfl rfl (WpL.nil (Qh ?_))
  apply RetQ.mk
  ·exact (QM rfl rfl rfl)
  ·exact .inr ⟨hT, rfl, rfl⟩
  ·exact Take.ent' (by repeat' constructor)

end Go.Proofs.YtggamdlpiejbiaaGreat
namespace Go.Proofs.YtggamdlpiejbiaaGreat
open Go.RowKit Go.Shelf


theorem hdRun_inv (l0 l1 l2 : Int) (hL : LimO l0 l1 l2) : ∀ (bs : List Int) (h : HS) (n : Int), hdJ l0 l1 l2 h → ((Xj l0 l1 l2 h bs n).1.last = 1 → Vt (Xj l0 l1 l2 h bs n).1) ∧ ((Xj l0 l1 l2 h bs n).1.last = 2 → HdBad (Xj l0 l1 l2 h bs n).1) ∧ ((Xj l0 l1 l2 h bs n).1.last = 0 ∨ (Xj l0 l1 l2 h bs n).1.last = 1 ∨ (Xj l0 l1 l2 h bs n).1.last = 2) ∧ n ≤ (Xj l0 l1 l2 h bs n).2 ∧ (Xj l0 l1 l2 h bs n).2 ≤ n + bs.length
  | [], h, n, hj => by
    have := hj.1.1
    refine ⟨fun q => ?_, fun q => ?_, .inl this, ?_, ?_⟩
    · exact absurd (this.symm.trans q) (by decide)
    · exact absurd (this.symm.trans q) (by decide)
    · simp [Xj]
    · simp [Xj]
  | c :: bs, h, n, hj => by
    rcases hdPut_ok (c := c) hL hj with q | q | q
    · have h0 := q.1.1
      rw [Za _ _ _ h0]
      have ih := hdRun_inv l0 l1 l2 hL bs _ (n + 1) q
      refine ⟨ih.1, ih.2.1, ih.2.2.1, by omega, by rw [List.length_cons]; push_cast; omega⟩
    · have h0 := q.1
      rw [Vl _ _ _ (by rw [h0]; decide)]
      exact ⟨fun z => absurd (h0.symm.trans z) (by decide), fun _ => q, .inr (.inr h0), by simp only; omega, by simp only [List.length_cons]; push_cast; omega⟩
    · have h0 := q.1
      rw [Vl _ _ _ (by rw [h0]; decide)]
      exact ⟨fun _ => q, fun z => absurd (h0.symm.trans z) (by decide), .inr (.inl h0), by simp only; omega, by simp only [List.length_cons]; push_cast; omega⟩
theorem hdP_ok (l0 l1 l2 : Int) (hL : LimO l0 l1 l2) (bs : List Int) : ((XW l0 l1 l2 bs).2.2 = 0 → XG (XW l0 l1 l2 bs).1.1 (XW l0 l1 l2 bs).1.2.1 (XW l0 l1 l2 bs).1.2.2.1 (XW l0 l1 l2 bs).1.2.2.2) ∧ 0 ≤ (XW l0 l1 l2 bs).2.1 ∧ (XW l0 l1 l2 bs).2.1 ≤ bs.length ∧ ((XW l0 l1 l2 bs).2.2 ≠ 0 → (XW l0 l1 l2 bs).1 = (0, 0, 0, 0)) := by
  have q := hdRun_inv l0 l1 l2 hL bs hd0 0 (hdJ0 l0 l1 l2)
  rw [Y2]
  unfold Zj
  by_cases h1 : (Xj l0 l1 l2 hd0 bs 0).1.last = 1
  · rw [if_pos h1]
    exact ⟨fun _ => (q.1 h1).2.2, by simp only; omega, by simp only; omega, fun z => absurd rfl z⟩
  · rw [if_neg h1]
    by_cases h2 : (Xj l0 l1 l2 hd0 bs 0).1.last = 2
    · rw [if_pos h2]
      have hb := q.2.1 h2
      unfold HdBad at hb
      exact ⟨fun z => by simp only at z; omega, by simp only; omega, by simp only; omega, fun _ => rfl⟩
    · rw [if_neg h2]
      exact ⟨fun z => by simp at z, by simp, by simp, fun _ => rfl⟩

theorem SizeN_spec (K W H M : Int) (hK : 1 ≤ K ∧ K < 4) : Fn Tryz.prog 75 #[.agg #[.int .i64 K, .int .i64 W, .int .i64 H, .int .i64 M]] [] (fun v l => v = .int .i64 0 ∧ l = []) := by
 refine Ql (vs := [.agg #[.int .i64 K, .int .i64 W, .int .i64 H, .int .i64 M]]) Tryz.func75 rfl Tryz.ntmps75 rfl (Qb (Qa (Q2 rfl rfl rfl ?_)))
 intro g1
 refine Qd rfl rfl (WpL.nil (Qb (Wp.block ?_)))
 refine Qb (Qa ?_)
 refine Qw (vs := [_, _, _, _]) rfl rfl rfl (by rfl) ?_
 refine Qi rfl rfl (by repeat' constructor) (ZM _ _ _ _) ?_
 rintro _ _ ⟨rfl, rfl⟩
 simp only [Qs]
 refine XV rfl rfl (Qd rfl rfl (WpL.nil (QY rfl (fun q => by omega) ?_)))
 refine Qb (Qa (Qd rfl rfl (WpL.nil (Qh ?_))))
 apply RetQ.mk
 ·exact (Res.one rfl rfl)
 ·exact ⟨rfl, rfl⟩
 ·exact Ent.nil _


theorem SizeA_spec (K : Int) (W H : Nat) (M : Int) (hM : XG K (W : Int) (H : Int) M) : Fn Tryz.prog 75 #[.agg #[.int .i64 K, .int .i64 (W : Int), .int .i64 (H : Int), .int .i64 M]] [] (fun v l => v = .int .i64 (if 4 ≤ K then ((QE K W (Qg M) * H : Nat) : Int) else 0) ∧ l = []) := by
  have hM2 := hM
  unfold XG at hM2
  by_cases h : 4 ≤ K
  · rw [if_pos h]
    exact Size_spec K W H M ⟨hM, by omega⟩
  · rw [if_neg h]
    exact SizeN_spec K W H M (by omega)
theorem readL_i {K W H M : Int} : ∀ (bs : List Int) (i : Int) (s : RS) (acc : List Int), 0 ≤ i → 0 ≤ (Yr K W H M bs i s acc).2.1 ∧ (Yr K W H M bs i s acc).2.1 ≤ i + bs.length
  | [], i, s, acc, h => by
    unfold Yr
    split
    · refine ⟨Int.le_refl _, ?_⟩; show (0 : Int) ≤ i + ((0 : Nat) : Int); omega
    · refine ⟨h, ?_⟩; show i ≤ i + ((0 : Nat) : Int); omega
  | c :: bs, i, s, acc, h => by
    unfold Yr
    split
    · exact ⟨by show (0 : Int) ≤ i + 1; omega, by show i + 1 ≤ i + ((bs.length + 1 : Nat) : Int); omega⟩
    · split
      · exact ⟨Int.le_refl _, by show (0 : Int) ≤ i + ((bs.length + 1 : Nat) : Int); omega⟩
      · have := readL_i (K := K) (W := W) (H := H) (M := M) bs (i + 1) (XP K W H M s c).1 (acc ++ (XP K W H M s c).2) (by omega)
        simp only [List.length_cons]; push_cast; omega
theorem readS_i {K W H M : Int} (bs : List Int) : 0 ≤ (Zz K W H M bs).2.1 ∧ (Zz K W H M bs).2.1 ≤ bs.length := by
  unfold Zz
  split
  · have := readL_i (K := K) (W := W) (H := H) (M := M) bs 0 s0R [] (by omega); omega
  · simp
/-- The image that bytes begin with, how many bytes it has, the error. -/
def Yu (l0 l1 l2 : Int) (bs : List Int) : Img × Int × Int :=
  if (XW l0 l1 l2 bs).2.2 ≠ 0 then (im0, 0, (XW l0 l1 l2 bs).2.2) else
  if 4 ≤ (XW l0 l1 l2 bs).1.1 then
    (if (rawF (XW l0 l1 l2 bs).1.1 (XW l0 l1 l2 bs).1.2.1.toNat (XW l0 l1 l2 bs).1.2.2.1.toNat (XW l0 l1 l2 bs).1.2.2.2 (bs.drop (XW l0 l1 l2 bs).2.1.toNat)).2 ≠ 0 then (im0, 0, (rawF (XW l0 l1 l2 bs).1.1 (XW l0 l1 l2 bs).1.2.1.toNat (XW l0 l1 l2 bs).1.2.2.1.toNat (XW l0 l1 l2 bs).1.2.2.2 (bs.drop (XW l0 l1 l2 bs).2.1.toNat)).2) else
      (⟨QR (XW l0 l1 l2 bs).1.1, (XW l0 l1 l2 bs).1.2.2.2, (XW l0 l1 l2 bs).1.2.1, (XW l0 l1 l2 bs).1.2.2.1, (rawF (XW l0 l1 l2 bs).1.1 (XW l0 l1 l2 bs).1.2.1.toNat (XW l0 l1 l2 bs).1.2.2.1.toNat (XW l0 l1 l2 bs).1.2.2.2 (bs.drop (XW l0 l1 l2 bs).2.1.toNat)).1⟩, (XW l0 l1 l2 bs).2.1 + ((QE (XW l0 l1 l2 bs).1.1 (XW l0 l1 l2 bs).1.2.1.toNat (Qg (XW l0 l1 l2 bs).1.2.2.2) * (XW l0 l1 l2 bs).1.2.2.1.toNat : Nat) : Int), 0))
  else
    (if (Zz (XW l0 l1 l2 bs).1.1 (XW l0 l1 l2 bs).1.2.1 (XW l0 l1 l2 bs).1.2.2.1 (XW l0 l1 l2 bs).1.2.2.2 (bs.drop (XW l0 l1 l2 bs).2.1.toNat)).2.2 ≠ 0 then (im0, 0, (Zz (XW l0 l1 l2 bs).1.1 (XW l0 l1 l2 bs).1.2.1 (XW l0 l1 l2 bs).1.2.2.1 (XW l0 l1 l2 bs).1.2.2.2 (bs.drop (XW l0 l1 l2 bs).2.1.toNat)).2.2) else
      (⟨QR (XW l0 l1 l2 bs).1.1, (XW l0 l1 l2 bs).1.2.2.2, (XW l0 l1 l2 bs).1.2.1, (XW l0 l1 l2 bs).1.2.2.1, (Zz (XW l0 l1 l2 bs).1.1 (XW l0 l1 l2 bs).1.2.1 (XW l0 l1 l2 bs).1.2.2.1 (XW l0 l1 l2 bs).1.2.2.2 (bs.drop (XW l0 l1 l2 bs).2.1.toNat)).1⟩, (XW l0 l1 l2 bs).2.1 + (Zz (XW l0 l1 l2 bs).1.1 (XW l0 l1 l2 bs).1.2.1 (XW l0 l1 l2 bs).1.2.2.1 (XW l0 l1 l2 bs).1.2.2.2 (bs.drop (XW l0 l1 l2 bs).2.1.toNat)).2.1, 0))
section
variable {l0 l1 l2 : Int} {bs : List Int} {K W H M n e : Int}
theorem parF_e (h : XW l0 l1 l2 bs = ((K, W, H, M), n, e)) (he : e ≠ 0) : Yu l0 l1 l2 bs = (im0, 0, e) := by unfold Yu; rw [h]; exact if_pos he
theorem parF_re (h : XW l0 l1 l2 bs = ((K, W, H, M), n, 0)) (h4 : 4 ≤ K) {out : List Int} {x : Int} (hr : rawF K W.toNat H.toNat M (bs.drop n.toNat) = (out, x)) (hx : x ≠ 0) : Yu l0 l1 l2 bs = (im0, 0, x) := by
  unfold Yu; rw [h]; dsimp only; rw [if_neg (fun q => q rfl), if_pos h4, hr]; exact if_pos hx
theorem parF_r (h : XW l0 l1 l2 bs = ((K, W, H, M), n, 0)) (h4 : 4 ≤ K) {out : List Int} (hr : rawF K W.toNat H.toNat M (bs.drop n.toNat) = (out, 0)) : Yu l0 l1 l2 bs = (⟨QR K, M, W, H, out⟩, n + ((QE K W.toNat (Qg M) * H.toNat : Nat) : Int), 0) := by
  unfold Yu; rw [h]; dsimp only; rw [if_neg (fun q => q rfl), if_pos h4, hr]; exact if_neg (fun q => q rfl)
theorem parF_pe (h : XW l0 l1 l2 bs = ((K, W, H, M), n, 0)) (h4 : ¬ 4 ≤ K) {out : List Int} {i x : Int} (hr : Zz K W H M (bs.drop n.toNat) = (out, i, x)) (hx : x ≠ 0) : Yu l0 l1 l2 bs = (im0, 0, x) := by
  unfold Yu; rw [h]; dsimp only; rw [if_neg (fun q => q rfl), if_neg h4, hr]; exact if_pos hx
theorem parF_p (h : XW l0 l1 l2 bs = ((K, W, H, M), n, 0)) (h4 : ¬ 4 ≤ K) {out : List Int} {i : Int} (hr : Zz K W H M (bs.drop n.toNat) = (out, i, 0)) : Yu l0 l1 l2 bs = (⟨QR K, M, W, H, out⟩, n + i, 0) := by
  unfold Yu; rw [h]; dsimp only; rw [if_neg (fun q => q rfl), if_neg h4, hr]; exact if_neg (fun q => q rfl)
end
structure RfX where
  (y : Nat) (out : List Int) (a : Option Addr) (c : Nat)
theorem rowsF_succ (K : Int) (W : Nat) (M : Int) (bs : List Int) (y : Nat) : rowsF K W M bs (y + 1) = rowsF K W M bs y ++ Yg K W (Qg M) ((bs.drop (y * QE K W (Qg M))).take (QE K W (Qg M))) := by unfold rowsF; rw [List.range_succ, List.flatMap_append]; simp

end Go.Proofs.YtggamdlpiejbiaaGreat
namespace Go.Proofs.YtggamdlpiejbiaaGreat
open Go.RowKit Go.Shelf

theorem rRead09_spec (A0 : HP) (a0 : Option Addr) (c0 : Nat) (bs : List Int) (hA : RdsL [A0] a0 (Xt bs)) (hbs : ∀ x ∈ bs, 0 ≤ x ∧ x ≤ 255) (hc0 : bs.length ≤ c0) (hbl : bs.length ≤ 2000000000) (K : Int) (W H : Nat) (M : Int) (hR : RawH K (W : Int) (H : Int) M) : Fn Tryz.prog 81 #[.slice a0 bs.length c0, .agg #[.int .i64 K, .int .i64 (W : Int), .int .i64 (H : Int), .int .i64 M]] [A0] (fun v l => ∃ out x a c, (out, x) = rawF K W H M bs ∧ v = .tuple #[.slice a out.length c, .int .i64 x] ∧ l = [QX 92 1 a c out.length (XQ out), A0]) := by
 have hM2 := hR.1
 unfold XG at hM2
 have hw := Q1 M
 have hsb := XB (K := K) (W := W) hw (by omega) (by omega)
 refine Ql (vs := [.slice a0 bs.length c0, .agg #[.int .i64 K, .int .i64 (W : Int), .int .i64 (H : Int), .int .i64 M]]) Tryz.func81 rfl Tryz.ntmps81 rfl (Qb (Qa (Q2 rfl rfl rfl ?_)))
 intro gB
 refine Qd rfl rfl (Qd rfl rfl (WpL.nil (Qb (Qa ?_))))
 refine Qw (vs := [_, _, _, _]) rfl rfl rfl (by rfl) ?_
 refine Qi rfl rfl (by repeat' constructor) (rMay09_spec K (W : Int) (H : Int) M hR) ?_
 rintro _ _ ⟨rfl, rfl⟩
 simp only [Qs]
 refine Qd rfl rfl (WpL.nil (Qb (Qb (Qa (Qc rfl rfl (Zp rfl rfl (WpL.nil (QW rfl (Wp.skip (Qb (Qb (Qa ?_))))))))))))
 refine Qc rfl rfl ?_
 refine Qw (vs := [_, _, _, _]) rfl rfl rfl (by rfl) ?_
 refine Qi rfl rfl (by repeat' constructor) (rBad_spec A0 a0 c0 bs hA hbs hc0 (by omega) K W H M hR) ?_
 rintro _ _ ⟨rfl, rfl⟩
 simp only [Qs]
 refine XU rfl rfl rfl (WpL.nil (Qj rfl (fun h1 => ?_) (fun h1 => ?_)))
 ·refine Qb (Qa (Qd rfl rfl (Qd rfl rfl (WpL.nil (Qh ?_)))))
  apply RetQ.mk
  ·exact (QM rfl rfl rfl)
  ·exact ⟨[], 5, none, 0, (if_pos (by assumption)).symm, rfl, rfl⟩
  ·exact Ent.own_nil (Take.ent' (by repeat' constructor))
 ·refine Wp.skip (Qb (Qb (Qa (Qc rfl rfl (QO rfl rfl ?_)))))
  refine Qw (vs := [_, _, _, _]) rfl rfl rfl (by rfl) ?_
  refine Qi rfl rfl (by repeat' constructor) (Vz K W H M hR) ?_
  rintro _ _ ⟨rfl, rfl⟩
  simp only [Qs]
  refine Q8 rfl rfl rfl (WpL.nil (Qj rfl (fun h2 => ?_) (fun h2 => ?_)))
  ·refine Qb (Qa (Qd rfl rfl (Qd rfl rfl (WpL.nil (Qh ?_)))))
   apply RetQ.mk
   ·exact (QM rfl rfl rfl)
   ·exact ⟨[], 6, none, 0, ((if_neg (by assumption)).trans (if_pos (by omega))).symm, rfl, rfl⟩
   ·exact Ent.own_nil (Take.ent' (by repeat' constructor))
  ·refine Wp.skip (Qb (Qa (Qd rfl rfl (WpL.nil (Qb (Qa ?_))))))
   refine Qw (vs := [_, _, _, _]) rfl rfl rfl (by rfl) ?_
   refine Qi rfl rfl (by repeat' constructor) (rStride_spec K W H M hR) ?_
   rintro _ _ ⟨rfl, rfl⟩
   simp only [Qs]
   refine Qd rfl rfl (WpL.nil (Qb (Qb (Qa (Qd rfl rfl (WpL.nil (Wp.block ?_)))))))
   refine Wp.loopD (σ := RfX) (fun x => x.y ≤ H ∧ x.out = rowsF K W M bs x.y ∧ x.out.length = x.y * W) [7, 9, 25, 26, 27, 28, 29, 30, 31, 32, 33, 34, 35, 36, 37, 38, 39, 40, 41, 42, 43, 44] (fun x => [(9, .int .i64 (x.y : Int)), (7, .slice x.a x.out.length x.c)]) (fun x => [QX 92 1 x.a x.c x.out.length (XQ x.out), A0, QK gB [.int .i64 K, .int .i64 (W : Int), .int .i64 (H : Int), .int .i64 M] 113]) (fun x => H - x.y) ⟨0, [], none, 0⟩ ?_ (by repeat (first | exact FrLe.nil | refine FrLe.cons rfl ?_)) ?_ ?_
   ·exact ⟨Nat.zero_le _, rfl, by simp⟩
   ·exact Ent.own_nil (Take.ent' (by repeat' constructor))
   ·rintro ⟨y, out, aO, cO⟩ ⟨hy0, ho, hol⟩
    dsimp only at hy0 ho hol ⊢
    have hy1 : (y + 1) * QE K W (Qg M) = y * QE K W (Qg M) + QE K W (Qg M) := by rw [Nat.add_mul, Nat.one_mul]
    have hc0' : (y : Int) * ((QE K W (Qg M) : Nat) : Int) = ((y * QE K W (Qg M) : Nat) : Int) := by push_cast; rfl
    have hyW : y * W ≤ 65536 * 4096 := Nat.mul_le_mul (by omega) (by omega)
    have hyS : y * QE K W (Qg M) ≤ 65536 * 24576 := Nat.mul_le_mul (by omega) hsb.2
    refine Qb (Qb (Qa (Qc rfl rfl (Qk (o2 := 2) rfl rfl rfl (Qn rfl rfl (by rfl) ?_)))))
    refine Q8 rfl rfl rfl (WpL.nil (Qj rfl (fun h4 => ?_) (fun h4 => ?_)))
    ·have hyH : y < H := by omega
     have hle : (y + 1) * QE K W (Qg M) ≤ bs.length := by
      have q : (y + 1) * QE K W (Qg M) ≤ H * QE K W (Qg M) := Nat.mul_le_mul_right _ (by omega)
      have q2 : H * QE K W (Qg M) = QE K W (Qg M) * H := Nat.mul_comm _ _
      omega
     have hrlen : ((bs.drop (y * QE K W (Qg M))).take (QE K W (Qg M))).length = QE K W (Qg M) := by rw [List.length_take, List.length_drop]; omega
     have hHL : (y + 1) * QE K W (Qg M) - (y * QE K W (Qg M)) = QE K W (Qg M) := by omega
     have hAr : RdsL [A0] (sla a0 (y * QE K W (Qg M)) c0 1) (Xt ((bs.drop (y * QE K W (Qg M))).take (QE K W (Qg M)))) := by have q := hA.sla (y * QE K W (Qg M)) ((y + 1) * QE K W (Qg M)) c0 1 (by omega); rwa [u8s_sub, hHL] at q
     have hbr : ∀ x ∈ ((bs.drop (y * QE K W (Qg M))).take (QE K W (Qg M))), 0 ≤ x ∧ x ≤ 255 := fun x hx => hbs x (List.mem_of_mem_drop (List.mem_of_mem_take hx))
     refine Wp.skip (Qb (Wp.block ?_))
     apply Wp.drawEN (fB := []) mixed 14 [31, 32, 33, 34, 35, 36, 37, 38, 39, 40, 41, 42, 43, 44] [(12, false), (0, false)] (by kernel_rfl) (by kernel_rfl) (by kernel_rfl) (by kernel_rfl)
     apply Q7 [⟨0, 31, _, [], true⟩, ⟨1, 32, _, [], false⟩, ⟨2, 33, _, [], false⟩, ⟨3, 34, _, [], false⟩, ⟨4, 35, _, [2, 3], false⟩, ⟨5, 36, _, [], false⟩, ⟨6, 37, _, [], false⟩, ⟨7, 38, _, [5, 6], false⟩, ⟨8, 39, _, [], false⟩, ⟨9, 40, _, [7, 8], false⟩, ⟨10, 41, _, [1, 4, 9], false⟩, ⟨11, 42, _, [], false⟩] [] [1, 2, 3, 4, 5, 6, 7, 8, 9, 10, 11] [44, 31] (.inl ⟨_, .nil⟩) rfl rfl rfl (by kernel_rfl) rfl rfl rfl
     ·refine QD rfl rfl rfl rfl ?_ ?_
      ·exact Qc rfl rfl (Qm rfl)
      refine AllF.cons rfl rfl rfl rfl ?_ ?_
      ·exact Qc rfl rfl (Qm rfl)
      refine AllF.cons rfl rfl rfl rfl ?_ ?_
      ·exact Qc rfl rfl (Qm rfl)
      refine AllF.cons rfl rfl rfl rfl ?_ ?_
      ·exact Qc rfl rfl (Qm rfl)
      refine AllF.cons rfl rfl rfl rfl ?_ ?_
      ·refine Xv rfl rfl rfl (Qo (by rw [hc0']; omega) (by rw [hc0']; omega)) ?_
       rw [hc0']
       exact Qm rfl
      refine AllF.cons rfl rfl rfl rfl ?_ ?_
      ·exact Qc rfl rfl (Qm rfl)
      refine AllF.cons rfl rfl rfl rfl ?_ ?_
      ·exact Qc rfl rfl (Qm rfl)
      refine AllF.cons rfl rfl rfl rfl ?_ ?_
      ·refine Xv rfl rfl rfl (Qo (by rw [hc0']; omega) (by rw [hc0']; omega)) ?_
       rw [hc0']
       exact Qm rfl
      refine AllF.cons rfl rfl rfl rfl ?_ ?_
      ·exact Qc rfl rfl (Qm rfl)
      refine AllF.cons rfl rfl rfl rfl ?_ ?_
      ·refine QA rfl rfl rfl (Qo (by omega) (by omega)) ?_
       exact Qm rfl
      refine AllF.cons rfl rfl rfl rfl ?_ ?_
      ·refine ZA (L := (y * QE K W (Qg M))) (H := ((y + 1) * QE K W (Qg M))) rfl rfl rfl rfl (by omega) (by push_cast [hy1]; omega) (by omega) (by omega) ?_
       rw [show (y + 1) * QE K W (Qg M) - y * QE K W (Qg M) = ((bs.drop (y * QE K W (Qg M))).take (QE K W (Qg M))).length from hHL.trans hrlen.symm]
       exact Qm rfl
      refine AllF.cons rfl rfl rfl rfl ?_ ?_
      ·refine Qw (vs := [_, _, _, _]) rfl rfl rfl (by rfl) ?_
       exact Qm rfl
      exact AllF.nil
     ·refine Qi rfl rfl (by repeat' constructor) (rRow_spec A0 (sla a0 (y * QE K W (Qg M)) c0 1) (c0 - (y * QE K W (Qg M))) ((bs.drop (y * QE K W (Qg M))).take (QE K W (Qg M))) hAr hbr (by rw [hrlen]; omega) (by rw [hrlen]; omega) K W H M hR hrlen) ?_
      rintro _ _ ⟨rr, a3, c3, hrr, rfl, rfl⟩
      simp only [Qs]
      have hwr : rr.length ≤ 4096 := by rw [hrr, YQ hw hrlen]; omega
      refine WpL.nil ⟨rfl, rfl, ?_⟩
      apply Q7 [] [0] [0] [] (.inl ⟨_, .nil⟩) rfl rfl rfl (by kernel_rfl) rfl rfl rfl
      ·exact AllF.nil
      ·refine ZR rfl rfl rfl (by repeat' constructor) (by rfl) (by rfl) (Z5 _) (by omega) (by omega) ?_
       intro a44 c44
       rw [pxs_app, ← List.length_append]
       refine WpL.nil ⟨rfl, rfl, ?_⟩
       apply GoR.nil [] (.inr rfl) rfl rfl
       ·exact AllF.nil
       ·show WpL _ _ _ _ _ _ _ _
        refine Qd rfl rfl (WpL.nil (Qa (Qc rfl rfl (QA rfl rfl rfl (Qo (by omega) (by omega)) ?_))))
        refine Qd rfl rfl (WpL.nil (Qq (⟨y + 1, out ++ rr, a44, c44⟩ : RfX) ?_ ?_ (by ((repeat (first | exact Top.refl | refine Top.push rfl ?_)); done)) (by repeat (first | exact FrLe.nil | refine FrLe.cons rfl ?_)) ?_))
        ·refine ⟨by simp only; omega, by simp only; rw [rowsF_succ, ← ho, hrr], ?_⟩
         simp only
         rw [List.length_append, hol, hrr, YQ hw hrlen, Nat.add_mul, Nat.one_mul]
        ·simp only; omega
        ·exact Take.ent' (by repeat' constructor)
    ·obtain rfl : y = H := by omega
     refine QP (Qb (Qa (Qc rfl rfl (Qd rfl rfl (Qd rfl rfl (WpL.nil (Qh ?_)))))))
     apply RetQ.mk
     ·exact (QM rfl rfl rfl)
     ·exact ⟨out, 0, aO, cO, by rw [ho]; exact ((if_neg (by assumption)).trans (if_neg (by omega))).symm, rfl, rfl⟩
     ·exact Take.ent' (by repeat' constructor)

end Go.Proofs.YtggamdlpiejbiaaGreat
namespace Go.Proofs.YtggamdlpiejbiaaGreat
open Go.RowKit Go.Shelf


theorem hParse_alt (a b d : Int) (bs : List Int) (hbs : ∀ x ∈ bs, 0 ≤ x ∧ x ≤ 255) (hl : bs.length ≤ 1000000000) {K W H M n e : Int} (hP : XW (QS a) (QT b) (QU d) bs = ((K, W, H, M), n, e)) : Fn Tryz.prog 74 #[.string (strOfNums bs), .agg #[.int .i64 a, .int .i64 b, .int .i64 d]] [] (fun v l => (e = 0 ∧ v = .tuple #[.agg #[.int .i64 K, .int .i64 W, .int .i64 H, .int .i64 M], .int .i64 n, .int .i64 0] ∧ l = []) ∨ (e ≠ 0 ∧ v = .tuple #[.agg #[.int .i64 0, .int .i64 0, .int .i64 0, .int .i64 0], .int .i64 0, .int .i64 e] ∧ l = [])) := by
  refine (hParse_spec a b d (strOfNums bs) (by rw [YF]; omega)).mono ?_
  rintro v l ⟨rfl, rfl⟩
  rw [Yj hbs, hP]
  by_cases he : e = 0
  · exact ⟨_, .inl ⟨he, if_pos he, rfl⟩, Ent.refl _⟩
  · exact ⟨_, .inr ⟨he, if_neg he, rfl⟩, Ent.refl _⟩
theorem rParse_alt (a b d : Int) (bs : List Int) (hbs : ∀ x ∈ bs, 0 ≤ x ∧ x ≤ 255) (hl : bs.length ≤ 1000000000) {K W H M n e : Int} (hP : XW (QS a) (QT b) (QU d) bs = ((K, W, H, M), n, e)) : Fn Tryz.prog 56 #[.string (strOfNums bs), .agg #[.int .i64 a, .int .i64 b, .int .i64 d]] [] (fun v l => (e = 0 ∧ v = .tuple #[.agg #[.int .i64 K, .int .i64 W, .int .i64 H, .int .i64 M], .int .i64 n, .int .i64 0] ∧ l = []) ∨ (e ≠ 0 ∧ v = .tuple #[.agg #[.int .i64 K, .int .i64 W, .int .i64 H, .int .i64 M], .int .i64 n, .int .i64 e] ∧ l = [])) := by
  refine (rParse_det a b d (strOfNums bs) (by rw [YF]; omega)).mono ?_
  rintro v l ⟨rfl, rfl⟩
  rw [Yj hbs, hP]
  by_cases he : e = 0
  · subst he; exact ⟨_, .inl ⟨rfl, rfl, rfl⟩, Ent.refl _⟩
  · exact ⟨_, .inr ⟨he, rfl, rfl⟩, Ent.refl _⟩

set_option maxHeartbeats 1000000 in
theorem Zy (A0 : HP) (a0 : Option Addr) (c0 : Nat) (bs : List Int) (hA : RdsL [A0] a0 (Xt bs)) (hbs : ∀ x ∈ bs, 0 ≤ x ∧ x ≤ 255) (hc0 : bs.length ≤ c0) (hbl : bs.length ≤ 1000000000) (a b d : Int) : Fn Tryz.prog 38 #[.slice a0 bs.length c0, .agg #[.int .i64 a, .int .i64 b, .int .i64 d]] [A0] (fun v l => ∃ aR cR, v = .tuple #[.agg #[.int .i64 (Yu (QS a) (QT b) (QU d) bs).1.c, .int .i64 (Yu (QS a) (QT b) (QU d) bs).1.m, .int .i64 (Yu (QS a) (QT b) (QU d) bs).1.w, .int .i64 (Yu (QS a) (QT b) (QU d) bs).1.h, .slice aR (Yu (QS a) (QT b) (QU d) bs).1.px.length cR], .int .i64 (Yu (QS a) (QT b) (QU d) bs).2.1, .int .i64 (Yu (QS a) (QT b) (QU d) bs).2.2] ∧ l = [QX 92 1 aR cR (Yu (QS a) (QT b) (QU d) bs).1.px.length (XQ (Yu (QS a) (QT b) (QU d) bs).1.px), A0]) := by
 obtain ⟨⟨⟨K, W, H, M⟩, n, e⟩, hPd⟩ : ∃ P, XW (QS a) (QT b) (QU d) bs = P := ⟨_, rfl⟩
 have hok := hdP_ok (QS a) (QT b) (QU d) (lim_o a b d) bs
 rw [hPd] at hok
 dsimp only at hok
 obtain ⟨nn, rfl⟩ := Int.eq_ofNat_of_zero_le hok.2.1
 have hnl : nn ≤ bs.length := by omega
 have hAy : RdsL [A0] (sla a0 nn c0 1) (Xt (bs.drop nn)) := by have q := hA.sla nn bs.length c0 1 hc0; rwa [u8s_from] at q
 have hbd : ∀ x ∈ bs.drop nn, 0 ≤ x ∧ x ≤ 255 := fun x hx => hbs x (List.mem_of_mem_drop hx)
 have hdl : (bs.drop nn).length = bs.length - nn := List.length_drop
 refine Ql (vs := [.slice a0 bs.length c0, .agg #[.int .i64 a, .int .i64 b, .int .i64 d]]) Tryz.func38 rfl Tryz.ntmps38 rfl (Qb (Qa (Q2 rfl rfl rfl ?_)))
 intro gB
 refine XH rfl ?_
 intro gM
 refine Qd rfl rfl (Qd rfl rfl (WpL.nil (Qb (Qa (Qc rfl rfl (s_b2sR rfl Tryz.underlying22 Tryz.underlying5 Tryz.underlying9 rfl hA (by exact Take.ent' (by repeat' constructor)) rfl ?_))))))
 refine Qw (vs := [_, _, _]) rfl rfl rfl (by rfl) ?_
 refine Qi rfl rfl (by repeat' constructor) (hParse_alt a b d bs hbs hbl hPd) ?_
 intro v0 m0 hN0
 rcases hN0 with ⟨hE, rfl, rfl⟩ | ⟨hE, rfl, rfl⟩
 ·simp only [Qs]
  subst hE
  have hMay := hok.1 rfl
  have hM2 := hMay
  unfold XG at hM2
  obtain ⟨Wn, rfl⟩ := Int.eq_ofNat_of_zero_le (show 0 ≤ W by omega)
  obtain ⟨Hn, rfl⟩ := Int.eq_ofNat_of_zero_le (show 0 ≤ H by omega)
  have hsb := XB (K := K) (W := Wn) (Q1 M) (by omega) (by omega)
  have hsz : QE K Wn (Qg M) * Hn ≤ 24576 * 65536 := Nat.mul_le_mul hsb.2 (by omega)
  refine Qc rfl rfl (QB rfl rfl rfl (QB rfl rfl rfl (QB rfl rfl rfl (XH rfl ?_))))
  intro gH
  refine QC rfl rfl rfl (by rfl) rfl ?_
  refine Qd rfl rfl (Qd rfl rfl (WpL.nil (Qb (Qb (Qa (Qc rfl rfl (Xq rfl rfl rfl (WpL.nil (Qz rfl (fun h => h rfl) ?_)))))))))
  refine Wp.skip (Qb (Qa (Qd rfl rfl (WpL.nil (Qb (Qa ?_))))))
  refine Qw (vs := [_, _, _, _]) rfl rfl rfl (by rfl) ?_
  refine Qi rfl rfl (by repeat' constructor) (SizeA_spec K Wn Hn M hMay) ?_
  rintro _ _ ⟨rfl, rfl⟩
  simp only [Qs]
  refine Qd rfl rfl (WpL.nil (Qb (Qb (Qa ?_))))
  refine Qw (vs := [_, _, _, _]) rfl rfl rfl (by rfl) ?_
  refine Qi rfl rfl (by repeat' constructor) (ZM _ _ _ _) ?_
  rintro _ _ ⟨rfl, rfl⟩
  simp only [Qs]
  refine WpL.nil (Qj rfl (fun h1 => ?_) (fun h1 => ?_))
  ·rw [if_pos (show 4 ≤ K by omega)]
   apply Xe (fB := []) mixed [(4, false)] (by kernel_rfl)
   apply Q7 [⟨0, 29, _, [], false⟩, ⟨1, 30, _, [], false⟩, ⟨2, 31, _, [0, 1], false⟩, ⟨3, 32, _, [], false⟩] [] [0, 1, 2, 3] [28, 34, 35, 10, 9] (.inr rfl) rfl rfl rfl (by kernel_rfl) rfl rfl rfl
   ·refine AllF.cons rfl rfl rfl rfl ?_ ?_
    ·exact Qc rfl rfl (Qm rfl)
    refine AllF.cons rfl rfl rfl rfl ?_ ?_
    ·exact Qc rfl rfl (Qm rfl)
    refine AllF.cons rfl rfl rfl rfl ?_ ?_
    ·refine Z9 (L := nn) rfl rfl rfl (by omega) (by omega) ?_
     rw [show bs.length - nn = (bs.drop nn).length from List.length_drop.symm]
     exact Qm rfl
    refine AllF.cons rfl rfl rfl rfl ?_ ?_
    ·refine Qw (vs := [_, _, _, _]) rfl rfl rfl (by rfl) ?_
     exact Qm rfl
    exact AllF.nil
   ·refine Qi rfl rfl (by repeat' constructor) (RawRead_spec A0 (sla a0 nn c0 1) (c0 - nn) (bs.drop nn) hAy hbd (by omega) K Wn (Hn : Int) M ⟨hMay, by omega⟩) ?_
    rintro _ _ ⟨b0, out, er, a3, c3, hb0, hrd, rfl, rfl⟩
    simp only [Qs]
    have hrf : rawF K Wn Hn M (bs.drop nn) = (out, er) := by
     have q := readW_raw (h := ⟨K, (Wn : Int), (Hn : Int), M, 0, 0, X5, 1, 0⟩) ⟨rfl, rfl, hMay⟩ (bs.drop nn) b0 (by simpa using hb0) (by rw [hb0]; omega)
     simp only [Int.toNat_natCast] at q
     rw [← q, ← hrd]
    refine WpL.nil ⟨rfl, rfl, ?_⟩
    apply GoR.nil [⟨5, 28, _, [4], false⟩, ⟨6, 34, _, [5], false⟩, ⟨7, 35, _, [5], false⟩, ⟨8, 10, _, [0, 1, 2, 3, 4, 5, 6], false⟩, ⟨9, 9, _, [0, 1, 2, 3, 4, 5, 6, 7, 8], false⟩] (.inr rfl) rfl rfl
    ·refine AllF.cons rfl rfl rfl rfl ?_ ?_
     ·exact Qc rfl rfl (Qm rfl)
     refine AllF.cons rfl rfl rfl rfl ?_ ?_
     ·exact QB rfl rfl rfl (Qm rfl)
     refine AllF.cons rfl rfl rfl rfl ?_ ?_
     ·exact QB rfl rfl rfl (Qm rfl)
     refine AllF.cons rfl rfl rfl rfl ?_ ?_
     ·exact Qd rfl rfl (Qm rfl)
     refine AllF.cons rfl rfl rfl rfl ?_ ?_
     ·exact Qd rfl rfl (Qm rfl)
     exact AllF.nil
    ·refine Qb (Qb (Qa (Qc rfl rfl (Xq rfl rfl rfl (WpL.nil (Qj rfl (fun h2 => ?_) (fun h2 => ?_)))))))
     ·refine Qb (Qa ?_)
      refine Xu rfl rfl ?_
      refine Qc rfl rfl ?_
      refine QC rfl rfl rfl (by rfl) rfl ?_
      refine Qd rfl rfl (Qd rfl rfl (WpL.nil (Qh ?_)))
      apply RetQ.mk
      ·exact (QL rfl rfl (by rfl) rfl rfl)
      ·exact ⟨none, 0, by rw [parF_re hPd (by omega) (by simpa using hrf) (by assumption)]; rfl, rfl⟩
      ·rw [parF_re hPd (by omega) (by simpa using hrf) (by assumption)]
       exact Ent.own_nil (Take.ent' (by repeat' constructor))
     ·obtain rfl : er = 0 := Classical.not_not.1 h2
      refine Wp.skip (Qb ?_)
      apply Xe (fB := []) mixed [(12, false)] (by kernel_rfl)
      apply Q7 [⟨0, 50, _, [], false⟩, ⟨1, 51, _, [0], false⟩, ⟨2, 52, _, [], false⟩, ⟨3, 53, _, [2], false⟩, ⟨4, 54, _, [], false⟩, ⟨5, 55, _, [4], false⟩, ⟨6, 56, _, [], false⟩, ⟨7, 57, _, [3, 5, 6], false⟩, ⟨8, 58, _, [1, 7], false⟩, ⟨9, 59, _, [], true⟩, ⟨10, 60, _, [], true⟩, ⟨11, 61, _, [9, 10], true⟩] [] [0, 1, 2, 3, 4, 5, 6, 7, 8] [5, 6, 59, 60, 61] (.inl ⟨_, .nil⟩) rfl rfl rfl (by kernel_rfl) rfl rfl rfl
      ·refine AllF.cons rfl rfl rfl rfl ?_ ?_
       ·refine Qw (vs := [_, _, _, _]) rfl rfl rfl (by rfl) ?_
        exact Qm rfl
       refine AllF.cons rfl rfl rfl rfl ?_ ?_
       ·refine Qi rfl rfl (by repeat' constructor) (XT _ _ _ _ (by omega)) ?_
        rintro _ _ ⟨rfl, rfl⟩
        simp only [Qs]
        exact WpL.nil ⟨rfl, rfl, rfl, by exact Ent.refl _⟩
       refine AllF.cons rfl rfl rfl rfl ?_ ?_
       ·exact Qk (o2 := 1) rfl rfl rfl (Qm rfl)
       refine AllF.cons rfl rfl rfl rfl ?_ ?_
       ·refine Qn rfl rfl (by rfl) ?_
        exact Qm rfl
       refine AllF.cons rfl rfl rfl rfl ?_ ?_
       ·exact Qk (o2 := 2) rfl rfl rfl (Qm rfl)
       refine AllF.cons rfl rfl rfl rfl ?_ ?_
       ·refine Qn rfl rfl (by rfl) ?_
        exact Qm rfl
       refine AllF.cons rfl rfl rfl rfl ?_ ?_
       ·exact Qc rfl rfl (Qm rfl)
       refine AllF.cons rfl rfl rfl rfl ?_ ?_
       ·refine Xu rfl rfl ?_
        exact Qm rfl
       refine AllF.cons rfl rfl rfl rfl ?_ ?_
       ·refine Xu rfl rfl ?_
        exact Qm rfl
       refine QD rfl rfl rfl rfl ?_ ?_
       ·exact Qc rfl rfl (Qm rfl)
       refine QD rfl rfl rfl rfl ?_ ?_
       ·exact Qc rfl rfl (Qm rfl)
       refine QD rfl rfl rfl rfl ?_ ?_
       ·refine QA rfl rfl rfl (Qo (by omega) (by omega)) ?_
        exact Qm rfl
       exact AllF.nil
      ·refine QC rfl rfl rfl (by rfl) rfl ?_
       refine WpL.nil ⟨rfl, rfl, ?_⟩
       apply GoR.nil [⟨13, 5, _, [0, 1, 2, 3, 4, 5, 6, 7, 8, 9, 10, 11, 12], false⟩, ⟨14, 6, _, [0, 1, 2, 3, 4, 5, 6, 7, 8, 9, 10, 11, 12, 13], false⟩] (.inl ⟨_, .nil⟩) rfl rfl
       ·refine AllF.cons rfl rfl rfl rfl ?_ ?_
        ·exact Qd rfl rfl (Qm rfl)
        refine AllF.cons rfl rfl rfl rfl ?_ ?_
        ·exact Qd rfl rfl (Qm rfl)
        exact AllF.nil
       ·refine Qh ?_
        apply RetQ.mk
        ·exact (QL rfl rfl (by rfl) rfl rfl)
        ·exact ⟨a3, c3, by rw [parF_r (out := out) hPd (by omega) (by simpa using hrf)]; try rfl, rfl⟩
        ·rw [parF_r (out := out) hPd (by omega) (by simpa using hrf)]
         exact Take.ent' (by repeat' constructor)
  ·apply Xe (fB := []) mixed [(5, false)] (by kernel_rfl)
   apply Q7 [⟨0, 37, _, [], false⟩, ⟨1, 38, _, [], false⟩, ⟨2, 39, _, [0, 1], false⟩, ⟨3, 40, _, [2], false⟩, ⟨4, 41, _, [], false⟩] [] [0, 1, 2, 3, 4] [36, 43, 44, 45, 10, 11, 9] (.inr rfl) rfl rfl rfl (by kernel_rfl) rfl rfl rfl
   ·refine AllF.cons rfl rfl rfl rfl ?_ ?_
    ·exact Qc rfl rfl (Qm rfl)
    refine AllF.cons rfl rfl rfl rfl ?_ ?_
    ·exact Qc rfl rfl (Qm rfl)
    refine AllF.cons rfl rfl rfl rfl ?_ ?_
    ·refine Z9 (L := nn) rfl rfl rfl (by omega) (by omega) ?_
     rw [show bs.length - nn = (bs.drop nn).length from List.length_drop.symm]
     exact Qm rfl
    refine AllF.cons rfl rfl rfl rfl ?_ ?_
    ·refine s_b2sR rfl Tryz.underlying22 Tryz.underlying5 Tryz.underlying9 rfl hAy (by exact Take.ent' (by repeat' constructor)) rfl ?_
     exact Qm rfl
    refine AllF.cons rfl rfl rfl rfl ?_ ?_
    ·refine Qw (vs := [_, _, _, _]) rfl rfl rfl (by rfl) ?_
     exact Qm rfl
    exact AllF.nil
   ·refine Qi rfl rfl (by repeat' constructor) (Read_spec (strOfNums (bs.drop nn)) (by rw [YF]; omega) K (Wn : Int) (Hn : Int) M) ?_
    rintro _ _ ⟨out, i, x, a3, c3, hrd, rfl, rfl⟩
    simp only [Qs]
    rw [Yj hbd] at hrd
    have hib := readS_i (K := K) (W := (Wn : Int)) (H := (Hn : Int)) (M := M) (bs.drop nn)
    rw [← hrd] at hib
    dsimp only at hib
    refine WpL.nil ⟨rfl, rfl, ?_⟩
    apply GoR.nil [⟨6, 36, _, [5], false⟩, ⟨7, 43, _, [6], false⟩, ⟨8, 44, _, [6], false⟩, ⟨9, 45, _, [6], false⟩, ⟨10, 10, _, [0, 1, 2, 3, 4, 5, 6, 7], false⟩, ⟨11, 11, _, [0, 1, 2, 3, 4, 5, 6, 7, 8, 10], false⟩, ⟨12, 9, _, [0, 1, 2, 3, 4, 5, 6, 7, 8, 9, 10, 11], false⟩] (.inr rfl) rfl rfl
    ·refine AllF.cons rfl rfl rfl rfl ?_ ?_
     ·exact Qc rfl rfl (Qm rfl)
     refine AllF.cons rfl rfl rfl rfl ?_ ?_
     ·exact QB rfl rfl rfl (Qm rfl)
     refine AllF.cons rfl rfl rfl rfl ?_ ?_
     ·exact QB rfl rfl rfl (Qm rfl)
     refine AllF.cons rfl rfl rfl rfl ?_ ?_
     ·exact QB rfl rfl rfl (Qm rfl)
     refine AllF.cons rfl rfl rfl rfl ?_ ?_
     ·exact Qd rfl rfl (Qm rfl)
     refine AllF.cons rfl rfl rfl rfl ?_ ?_
     ·exact Qd rfl rfl (Qm rfl)
     refine AllF.cons rfl rfl rfl rfl ?_ ?_
     ·exact Qd rfl rfl (Qm rfl)
     exact AllF.nil
    ·refine Qb (Qb (Qa (Qc rfl rfl (Xq rfl rfl rfl (WpL.nil (Qj rfl (fun h2 => ?_) (fun h2 => ?_)))))))
     ·refine Qb (Qa ?_)
      refine Xu rfl rfl ?_
      refine Qc rfl rfl ?_
      refine QC rfl rfl rfl (by rfl) rfl ?_
      refine Qd rfl rfl (Qd rfl rfl (WpL.nil (Qh ?_)))
      apply RetQ.mk
      ·exact (QL rfl rfl (by rfl) rfl rfl)
      ·exact ⟨none, 0, by rw [parF_pe hPd (by omega) (by simpa using hrd.symm) (by assumption)]; rfl, rfl⟩
      ·rw [parF_pe hPd (by omega) (by simpa using hrd.symm) (by assumption)]
       exact Ent.own_nil (Take.ent' (by repeat' constructor))
     ·obtain rfl : x = 0 := Classical.not_not.1 h2
      refine Wp.skip (Qb ?_)
      apply Xe (fB := []) mixed [(12, false)] (by kernel_rfl)
      apply Q7 [⟨0, 50, _, [], false⟩, ⟨1, 51, _, [0], false⟩, ⟨2, 52, _, [], false⟩, ⟨3, 53, _, [2], false⟩, ⟨4, 54, _, [], false⟩, ⟨5, 55, _, [4], false⟩, ⟨6, 56, _, [], false⟩, ⟨7, 57, _, [3, 5, 6], false⟩, ⟨8, 58, _, [1, 7], false⟩, ⟨9, 59, _, [], true⟩, ⟨10, 60, _, [], true⟩, ⟨11, 61, _, [9, 10], true⟩] [] [0, 1, 2, 3, 4, 5, 6, 7, 8] [5, 6, 59, 60, 61] (.inl ⟨_, .nil⟩) rfl rfl rfl (by kernel_rfl) rfl rfl rfl
      ·refine AllF.cons rfl rfl rfl rfl ?_ ?_
       ·refine Qw (vs := [_, _, _, _]) rfl rfl rfl (by rfl) ?_
        exact Qm rfl
       refine AllF.cons rfl rfl rfl rfl ?_ ?_
       ·refine Qi rfl rfl (by repeat' constructor) (XT _ _ _ _ (by omega)) ?_
        rintro _ _ ⟨rfl, rfl⟩
        simp only [Qs]
        exact WpL.nil ⟨rfl, rfl, rfl, by exact Ent.refl _⟩
       refine AllF.cons rfl rfl rfl rfl ?_ ?_
       ·exact Qk (o2 := 1) rfl rfl rfl (Qm rfl)
       refine AllF.cons rfl rfl rfl rfl ?_ ?_
       ·refine Qn rfl rfl (by rfl) ?_
        exact Qm rfl
       refine AllF.cons rfl rfl rfl rfl ?_ ?_
       ·exact Qk (o2 := 2) rfl rfl rfl (Qm rfl)
       refine AllF.cons rfl rfl rfl rfl ?_ ?_
       ·refine Qn rfl rfl (by rfl) ?_
        exact Qm rfl
       refine AllF.cons rfl rfl rfl rfl ?_ ?_
       ·exact Qc rfl rfl (Qm rfl)
       refine AllF.cons rfl rfl rfl rfl ?_ ?_
       ·refine Xu rfl rfl ?_
        exact Qm rfl
       refine AllF.cons rfl rfl rfl rfl ?_ ?_
       ·refine Xu rfl rfl ?_
        exact Qm rfl
       refine QD rfl rfl rfl rfl ?_ ?_
       ·exact Qc rfl rfl (Qm rfl)
       refine QD rfl rfl rfl rfl ?_ ?_
       ·exact Qc rfl rfl (Qm rfl)
       refine QD rfl rfl rfl rfl ?_ ?_
       ·refine QA rfl rfl rfl (Qo (by omega) (by omega)) ?_
        exact Qm rfl
       exact AllF.nil
      ·refine QC rfl rfl rfl (by rfl) rfl ?_
       refine WpL.nil ⟨rfl, rfl, ?_⟩
       apply GoR.nil [⟨13, 5, _, [0, 1, 2, 3, 4, 5, 6, 7, 8, 9, 10, 11, 12], false⟩, ⟨14, 6, _, [0, 1, 2, 3, 4, 5, 6, 7, 8, 9, 10, 11, 12, 13], false⟩] (.inl ⟨_, .nil⟩) rfl rfl
       ·refine AllF.cons rfl rfl rfl rfl ?_ ?_
        ·exact Qd rfl rfl (Qm rfl)
        refine AllF.cons rfl rfl rfl rfl ?_ ?_
        ·exact Qd rfl rfl (Qm rfl)
        exact AllF.nil
       ·refine Qh ?_
        apply RetQ.mk
        ·exact (QL rfl rfl (by rfl) rfl rfl)
        ·exact ⟨a3, c3, by rw [parF_p (out := out) (i := i) hPd (by omega) (by simpa using hrd.symm)]; try rfl, rfl⟩
        ·rw [parF_p (out := out) (i := i) hPd (by omega) (by simpa using hrd.symm)]
         exact Take.ent' (by repeat' constructor)
 ·simp only [Qs]
  refine Qc rfl rfl (QB rfl rfl rfl (QB rfl rfl rfl (QB rfl rfl rfl (XH rfl ?_))))
  intro gH
  refine QC rfl rfl rfl (by rfl) rfl ?_
  refine Qd rfl rfl (Qd rfl rfl (WpL.nil (Qb (Qb (Qa (Qc rfl rfl (Xq rfl rfl rfl (WpL.nil (QY rfl hE (Qb (Qa ?_)))))))))))
  refine Xu rfl rfl ?_
  refine Qc rfl rfl ?_
  refine QC rfl rfl rfl (by rfl) rfl ?_
  refine Qd rfl rfl (Qd rfl rfl (WpL.nil (Qh ?_)))
  apply RetQ.mk
  ·exact (QL rfl rfl (by rfl) rfl rfl)
  ·exact ⟨none, 0, by rw [parF_e hPd hE]; rfl, rfl⟩
  ·rw [parF_e hPd hE]
   exact Ent.own_nil (Take.ent' (by repeat' constructor))

end Go.Proofs.YtggamdlpiejbiaaGreat
