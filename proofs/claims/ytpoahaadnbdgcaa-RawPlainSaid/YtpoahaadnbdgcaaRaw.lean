/- Rows that are made and copied into, arrays at any place, functions with a receiver, or. -/
import Derived.Test.YtpoahaadnbdgcaaMem
import Derived.Laws.CopyRow
namespace Go.Proofs.Ytpoahaadnbdgcaa
open Go.RowKit Go.Shelf
section
variable {P : Program} {n : Cx} {D : List Deferred} {ops : Array Oper} {rest : List Oper} {Q : Post} {fr : Fr} {l : List HP} {ty : Nat} {pos : String} {aft : Array Edge}

theorem Ent.own_blk {g T : Nat} {cs : List Value} {l : List HP} (h : cs.length ≤ 140737488355328) : Ent (blk g cs T :: l) (own T 1 (some ⟨g, 0, none⟩) cs.length cs.length cs :: l) := by
  rintro w U ⟨S, ⟨hS, hg⟩, hSU, hl⟩
  refine ⟨S, ⟨fun b => (hS b).trans ⟨fun e => ⟨_, rfl, e⟩, fun ⟨ad, e, hb⟩ => ?_⟩, ?_⟩, hSU, hl⟩
  · injection e with e; subst e; exact hb
  · exact ⟨by simp, .inr ⟨g, cs.length, cs.toArray, rfl, Nat.zero_le _, hg, Nat.le_refl _, by unfold maxLen; omega, by simp, by simp⟩⟩
/-- A row that is made: one's own. -/
theorem s_mko {d t e by_ : Nat} {z : Value} {x : Operand} {i : Int} (N : Nat) (hd : Nat.blt d n = true) [ht : SlT P t e 1 by_ z] (hx : ev fr x = some (.int .i64 i)) (hi : i = (N : Int)) (hb : by_ * N ≤ 140737488355328) (hN : N ≤ 140737488355328) (hz : z.cells = #[z])
    (k : ∀ g, WpL P n D ops rest Q ((d, .slice (some ⟨g, 0, none⟩) N N) :: fr) (own e 1 (some ⟨g, 0, none⟩) N N (List.replicate N z) :: l)) : WpL P n D ops (⟨some d, .makeSlice t x x, ty, pos, aft, none⟩ :: rest) Q fr l := by
  subst hi
  have hb2 : (by_ : Int) * (N : Int) ≤ 281474976710656 := by
    have h := Int.ofNat_le.2 hb
    rw [Int.natCast_mul] at h
    omega
  refine s_mkF hd hx (by omega) hb2 (by omega) hz (fun g => ?_)
  have h := Ent.own_blk (g := g) (T := e) (cs := List.replicate N z) (l := l) (by rw [List.length_replicate]; exact hN)
  rw [List.length_replicate] at h
  rw [Int.toNat_natCast]
  exact WpL.ent h (k g)
theorem s_ixav {d T len e k : Nat} {x y : Operand} {vs : List Value} {v : Value} {kk : IntKind} {i : Int} (hd : Nat.blt d n = true) [hT : ArT P T len e] [hs : Scal P e] (hx : ev fr x = some (.agg vs.toArray)) (hy : ev fr y = some (.int kk i)) (hi : i = (k : Int)) (hl : k < len) (hv : vs[k]? = some v)
    (kn : WpL P n D ops rest Q ((d, v) :: fr) l) : WpL P n D ops (⟨some d, .index T x y, ty, pos, aft, none⟩ :: rest) Q fr l :=
  WpL.val hd (fun A w _ hh _ => by
    subst hi
    simp [execOp, Instr.index, hh.ev hx, hh.ev hy, asIntOf, run_underlying hT.hu, hs.size, part, hs.agg, hv, hl]) kn
theorem s_ixarS {d T g o len e o2 : Nat} {kk : IntKind} {x y : Operand} {i : Int} (k : Nat) (hd : Nat.blt d n = true) [hT : ArT P T len e] (hx : ev fr x = some (.pointer (some ⟨g, o, none⟩))) (hy : ev fr y = some (.int kk i)) (hi : i = (k : Int)) (hl : k < len) (ho : o + k = o2)
    (kn : WpL P n D ops rest Q ((d, .pointer (some ⟨g, o2, none⟩)) :: fr) l) : WpL P n D ops (⟨some d, .indexAddr T x y, ty, pos, aft, none⟩ :: rest) Q fr l := by
  subst hi
  exact s_ixar hd hx hy (Eq.mpr Nat.blt_eq hl) ho kn
theorem s_mkfb {d f : Nat} {us xs : List Operand} {ws vs : List Value} (hd : Nat.blt d n = true) (hu : evs fr us = some ws) (hx : evs fr xs = some vs) (k : WpL P n D ops rest Q ((d, .func (.func f) ws.toArray vs.toArray) :: fr) l) :
    WpL P n D ops (⟨some d, .makeFunc (.func f) us.toArray xs.toArray, ty, pos, aft, none⟩ :: rest) Q fr l :=
  WpL.val hd (fun a w _ hh _ => by simp [execOp, ← evs_map hh us ws hu, ← evs_map hh xs vs hx, Instr.makeFunc]) k
theorem s_orv {d T T2 : Nat} {x y : Operand} {kk : IntKind} {u j : Int} (r : Int) (hd : Nat.blt d n = true) (hx : ev fr x = some (.int kk u)) (hy : ev fr y = some (.int kk j)) (hu : 0 ≤ u ∧ u < 2 ^ kk.bits) (hj : 0 ≤ j ∧ j < 2 ^ kk.bits) (he : ((u.toNat ||| j.toNat : Nat) : Int) = r) (hw : kk.wrap r = r)
    (k : WpL P n D ops rest Q ((d, .int kk r) :: fr) l) : WpL P n D ops (⟨some d, .binOp .or T x y T2, ty, pos, aft, none⟩ :: rest) Q fr l :=
  WpL.val hd (fun a w _ hh _ => by
    have e1 := bv_toNat (k := kk) hu.1 hu.2
    have e2 := bv_toNat (k := kk) hj.1 hj.2
    simp only [execOp, hh.ev hx, hh.ev hy, eqGuard, binOp, Op.intBits]
    simp only [BitVec.toNat_or, e1, e2]
    rw [he, hw]
    simp) k
/-- append(s, t...), t any slice that is read. -/
theorem s_appr {d t e s by_ : Nat} {z : Value} {x y : Operand} {a a2 : Option Addr} {c m c2 m2 : Nat} {xs ys : List Value} {As F : List HP} (hd : Nat.blt d n = true) [ht : SlT P t e s by_ z] (hx : ev fr x = some (.slice a m c)) (hy : ev fr y = some (.slice a2 m2 c2))
    (htk : Take l [own e s a c m xs] F) (hA : RdsL As a2 ys) (he : Ent l As) (hne : ys ≠ []) (hl : ys.length = m2 * s) (hz : z.cells.size = s) (hs : Nat.blt 0 s = true) (h1 : ∀ u ∈ ys, u.oneCell' = true) (hb : (m + m2) * by_ ≤ 140737488355328) (hm : m + m2 ≤ 140737488355328)
    (k : ∀ a' c', WpL P n D ops rest Q ((d, .slice a' (m + m2) c') :: fr) (own e s a' c' (m + m2) (xs ++ ys) :: F)) : WpL P n D ops (⟨some d, .call ⟨.builtin .append, #[x, y], #[t, t]⟩, ty, pos, aft, none⟩ :: rest) Q fr l := by
  refine WpL.valx (σ := Option Addr × Nat) hd (fun p => .slice p.1 (m + m2) p.2) (fun p => own e s p.1 p.2 (m + m2) (xs ++ ys) :: F) (fun A w U hh hs' => ?_) (fun p => k p.1 p.2)
  obtain ⟨r1, r2⟩ := hA w U (he w U hs')
  cases a2 with
  | none => exact absurd (r1 hne) (by simp)
  | some ad =>
    obtain ⟨a', c', w', hr, ho⟩ := out_append (P := P) (t := t) (ty := ty) hz (Eq.mp Nat.blt_eq hs) (htk.ent w U hs') ad m2 c2 ys hl (fun j u hu => r2 ad rfl j u hu) h1 hb hm
    exact ⟨(a', c'), w', by simp [execOp, resolve, invoke, builtin, hh.ev hx, hh.ev hy, hr], ho⟩
theorem take_seg {α : Type} {cur ys xs : List α} {m L : Nat} (h : cur.take m = xs) (hL : L + ys.length ≤ m) (hm : m ≤ cur.length) : (cur.take L ++ ys ++ cur.drop (L + ys.length)).take m = xs.take L ++ ys ++ xs.drop (L + ys.length) := by
  subst h
  rw [List.take_append, List.take_of_length_le (l := cur.take L ++ ys) (by simp; omega), List.take_take, List.drop_take, Nat.min_eq_left (by omega)]
  congr 2
  simp only [List.length_append, List.length_take]; omega
/-- copy(s[L:], t): both rows of one's own. -/
theorem s_copyo {d t u e by_ c m L q c1 m2 c2 : Nat} {z : Value} {x y : Operand} {a a2 : Option Addr} {xs ys : List Value} {F : List HP} (hd : Nat.blt d n = true) [ht : SlT P t e 1 by_ z] (hx : ev fr x = some (.slice (sla a L c 1) q c1)) (hy : ev fr y = some (.slice a2 m2 c2))
    (htk : Take l [own e 1 a c m xs, own e 1 a2 c2 m2 ys] F) (hL : L + q ≤ m) (hm : m2 ≤ q) (h0 : 0 < m2) (h1 : ∀ v ∈ ys, v.oneCell' = true)
    (k : WpL P n D ops rest Q ((d, .int .i64 (m2 : Int)) :: fr) (own e 1 a c m (xs.take L ++ ys ++ xs.drop (L + m2)) :: own e 1 a2 c2 m2 ys :: F)) : WpL P n D ops (⟨some d, .call ⟨.builtin .copy, #[x, y], #[t, u]⟩, ty, pos, aft, none⟩ :: rest) Q fr l := by
  refine WpL.valx (σ := Unit) hd (fun _ => .int .i64 (m2 : Int)) (fun _ => own e 1 a c m (xs.take L ++ ys ++ xs.drop (L + m2)) :: own e 1 a2 c2 m2 ys :: F) (fun A w U hh hs' => ⟨(), ?_⟩) (fun _ => k)
  have h2 := htk.ent w U hs'
  have h2' := h2
  obtain ⟨S1, hp1, _, S2, hp2, _⟩ := h2'
  have hl2 := hp2.2.1
  have hl1 := hp1.2.1
  rw [Nat.mul_one] at hl1 hl2
  rcases own_form hp1 with ⟨_, _, rfl, _⟩ | ⟨g, cur, rfl, hg, hmc, hcs, htk1, _⟩
  · omega
  · rcases own_form hp2 with ⟨_, _, rfl, _⟩ | ⟨g2, cur2, rfl, hg2, hmc2, hcs2, htk2, _⟩
    · omega
    · rw [Nat.mul_one] at hcs hcs2 htk1 htk2
      have hne : ¬ c = L := by omega
      have hsla : sla (some ⟨g, 0, none⟩) L c 1 = some ⟨g, L, none⟩ := by unfold sla; rw [if_neg hne]; simp [add0]
      rw [hsla] at hx
      obtain ⟨i0, hi, hz0, hz1, hz2⟩ := info_parts ht.hi
      have hr := run_copy_row (P := P) w t u ty e g L q c1 ⟨g2, 0, none⟩ m2 c2 cur e ys ht.hu (by rw [hi]; simp [hz1]) hg (by rw [hl2]; exact (Nat.min_eq_left hm).symm) (fun j v hj => own_cells hp2 rfl j v hj) (by rw [hcs, hl2]; omega) h1
      refine ⟨w.setRow g (cur.toList.take L ++ ys ++ cur.toList.drop (L + ys.length)).toArray, ?_, ?_⟩
      · simp [execOp, resolve, invoke, builtin, hh.ev hx, hh.ev hy, hr, goInt, hl2]
      · obtain ⟨V, ⟨S, ⟨hS, hown⟩, hSV, _⟩, hfr⟩ := Out.frame (pre := [own e 1 (some ⟨g, 0, none⟩) c m xs]) (F := own e 1 (some ⟨g2, 0, none⟩) c2 m2 ys :: F) h2
        refine hfr [own e 1 (some ⟨g, 0, none⟩) c m (xs.take L ++ ys ++ xs.drop (L + m2))] _ ⟨⟨S, ⟨hS, ?_⟩, fun b hb => .inl (hSV b hb), trivial⟩, rfl, rfl, rfl, by simp, fun b hb hn => setRow_other w g b _ fun e => hn (hSV b ((hS b).2 ⟨_, rfl, e⟩))⟩
        have hseg := take_seg (ys := ys) (L := L) htk1 (by omega) (by simpa [hcs] using hmc)
        rw [hl2] at hseg
        refine ⟨by simp only [List.length_append, List.length_take, List.length_drop]; omega, ?_⟩
        rcases hown.2 with ⟨e, _⟩ | ⟨g', cap, cur', e, hb', hg', q1, q2, q3, q4⟩
        · cases e
        · injection e with e1 e2 e3
          injection e1 with e1
          injection e1 with e1 _ _
          subst e1
          subst e3
          rw [hg] at hg'
          injection hg' with hg'
          injection hg' with hg' _ _
          subst hg'
          refine .inr ⟨g, c, _, rfl, Nat.zero_le _, setRow_heap w g _ _ e _ hg, q1, q2, ?_, ?_⟩
          · simp only [List.size_toArray, List.length_append, List.length_take, List.length_drop, Array.length_toList]; omega
          · rw [Nat.mul_one, hl2]; exact hseg
end
end Go.Proofs.Ytpoahaadnbdgcaa
