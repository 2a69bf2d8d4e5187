/- Walks and plain laws, a part of the proof of ImageTurns: every input that the law's guards let in, no condition beside. -/
import Derived.Lib.ConvBytes
import Derived.Laws.StructEq
import Derived.ChangeKeysEq
import Derived.Test.YtggamdlpiejbiaaGreatM18
namespace Go.Proofs.YtggamdlpiejbiaaGreat
open Go.ChangeShapes Go.WideShapes Go.ChangeAt Go.RowKit Go.Shelf

def GsOk1 (A0 : HP) (g : GS) : Prop := (∀ x ∈ g.zs, -9223372036854775808 ≤ x ∧ x < 9223372036854775808) ∧ g.zs.length ≤ 9223372036854775807 ∧ RdsL [A0] g.a (QU g.zs) ∧ (-9223372036854775808 ≤ g.mx ∧ g.mx < 9223372036854775808) ∧ (-9223372036854775808 ≤ g.w ∧ g.w < 9223372036854775808) ∧ (-9223372036854775808 ≤ g.h ∧ g.h < 9223372036854775808)
theorem open_G {H : Type} {enc : TypeId × Value → H} {W : World} {sp : Nat → Bool} {held : Bool} {fuel : Nat} {cs : List Value} {x : DataW H × List MemPlace} (h : DataW.trod enc Tryz.prog W 0 sp held fuel 74 cs = some x) : ∃ g : GS, cs = gC g ∧ GsOk1 (oldW W) g := by
  obtain ⟨xs, n, rfl, rfl, hl, hxl, hf⟩ := DataW.trod_struct Tryz.underlying74 h
  rw [show Tryz.prog.cellsOf 74 = 5 by kernel_rfl] at hl
  obtain ⟨c0, c1, c2, c3, c4, rfl⟩ := len5 hl
  have f0 : DataW.trod enc Tryz.prog W 0 sp held n 4 (([c0, c1, c2, c3, c4].drop 0).take (Tryz.prog.cellsOf 4)) = xs[0]? := hf 0 _ rfl
  rw [show Tryz.prog.cellsOf 4 = 1 by kernel_rfl, List.getElem?_eq_getElem (show 0 < xs.length by rw [hxl]; decide)] at f0
  change DataW.trod enc Tryz.prog W 0 sp held n 4 [c0] = _ at f0
  have f1 : DataW.trod enc Tryz.prog W 0 sp held n 3 (([c0, c1, c2, c3, c4].drop 1).take (Tryz.prog.cellsOf 3)) = xs[1]? := hf 1 _ rfl
  rw [show Tryz.prog.cellsOf 3 = 1 by kernel_rfl, List.getElem?_eq_getElem (show 1 < xs.length by rw [hxl]; decide)] at f1
  change DataW.trod enc Tryz.prog W 0 sp held n 3 [c1] = _ at f1
  have f2 : DataW.trod enc Tryz.prog W 0 sp held n 3 (([c0, c1, c2, c3, c4].drop 2).take (Tryz.prog.cellsOf 3)) = xs[2]? := hf 2 _ rfl
  rw [show Tryz.prog.cellsOf 3 = 1 by kernel_rfl, List.getElem?_eq_getElem (show 2 < xs.length by rw [hxl]; decide)] at f2
  change DataW.trod enc Tryz.prog W 0 sp held n 3 [c2] = _ at f2
  have f3 : DataW.trod enc Tryz.prog W 0 sp held n 3 (([c0, c1, c2, c3, c4].drop 3).take (Tryz.prog.cellsOf 3)) = xs[3]? := hf 3 _ rfl
  rw [show Tryz.prog.cellsOf 3 = 1 by kernel_rfl, List.getElem?_eq_getElem (show 3 < xs.length by rw [hxl]; decide)] at f3
  change DataW.trod enc Tryz.prog W 0 sp held n 3 [c3] = _ at f3
  have f4 : DataW.trod enc Tryz.prog W 0 sp held n 26 (([c0, c1, c2, c3, c4].drop 4).take (Tryz.prog.cellsOf 26)) = xs[4]? := hf 4 _ rfl
  rw [show Tryz.prog.cellsOf 26 = 1 by kernel_rfl, List.getElem?_eq_getElem (show 4 < xs.length by rw [hxl]; decide)] at f4
  change DataW.trod enc Tryz.prog W 0 sp held n 26 [c4] = _ at f4
  obtain ⟨b0, e0, _⟩ := DataW.trod_bool Tryz.underlying4 f0
  obtain rfl : c0 = _ := by simpa using e0
  obtain ⟨z1, e1, _, w1⟩ := DataW.trod_int Tryz.underlying3 f1
  obtain rfl : c1 = _ := by simpa using e1
  have b1 := wf_i64 w1
  obtain ⟨z2, e2, _, w2⟩ := DataW.trod_int Tryz.underlying3 f2
  obtain rfl : c2 = _ := by simpa using e2
  have b2 := wf_i64 w2
  obtain ⟨z3, e3, _, w3⟩ := DataW.trod_int Tryz.underlying3 f3
  obtain rfl : c3 = _ := by simpa using e3
  have b3 := wf_i64 w3
  obtain ⟨a4, n4, k4, zs4, e4, hzl4, hnk4, hkm4, hz4, hr4⟩ := open_nums Tryz.underlying26 Tryz.underlying3 (by kernel_rfl) f4
  obtain rfl : c4 = _ := by simpa using e4
  subst hzl4
  have b4 : ∀ x ∈ zs4, _ := fun x hx => wf_i64 (hz4 x hx)
  have m4 : zs4.length ≤ 9223372036854775807 := by unfold maxLen at hkm4; omega
  exact ⟨⟨b0, z1, z2, z3, a4, k4, zs4⟩, rfl, ⟨b4, m4, hr4, b1, b2, b3⟩⟩
end Go.Proofs.YtggamdlpiejbiaaGreat
namespace Go.Proofs.YtggamdlpiejbiaaGreat
open Go.RowKit Go.Shelf


/-- The kinds that may tell a format. -/
def kP (C M : Int) (k : Nat) : Bool := decide (1 ≤ k) && decide (((k : Int) % 3 = 0 ↔ C = 3) ∧ ((k : Int) % 3 ≠ 1 ∨ M = 1))
def kUp (C M : Int) (k : Nat) : List Int := ((List.range k).filter (kP C M)).map fun i : Nat => (i : Int)
theorem kUp_len {C M : Int} {k : Nat} : (kUp C M k).length ≤ k := by
  unfold kUp
  rw [List.length_map]
  exact Nat.le_trans (List.length_filter_le _ _) (by rw [List.length_range]; exact Nat.le_refl _)
def Xh (C M : Int) : List Int := if Yc C M then kUp C M 7 else []
end Go.Proofs.YtggamdlpiejbiaaGreat
namespace Go.Proofs.YtggamdlpiejbiaaGreat
open Go.RowKit Go.Shelf


theorem kinds_len {C M : Int} : (Xh C M).length ≤ 7 := by
  unfold Xh
  split
  · exact kUp_len
  · simp
end Go.Proofs.YtggamdlpiejbiaaGreat
namespace Go.Proofs.YtggamdlpiejbiaaGreat
open Go.RowKit Go.Shelf


def Yd (w h : Int) : Prop := (1 ≤ w ∧ w ≤ 4096) ∧ (1 ≤ h ∧ h ≤ 65536) ∧ w * h ≤ 16777216
instance (w h : Int) : Decidable (Yd w h) := by unfold Yd; infer_instance
def X7 (C M W H : Int) (px : List Int) : Prop := Yd W H ∧ (px.length : Int) = W * H ∧ ∀ p ∈ px, X1 p C M
instance (C M W H : Int) (px : List Int) : Decidable (X7 C M W H px) := by unfold X7; infer_instance
theorem Take1.mid {A : HP} {As : List HP} : ∀ (Bs : List HP), Take1 (Bs ++ A :: As) A (Bs ++ As)
  | [] => .here
  | _ :: Bs => .there (Take1.mid Bs)
theorem Take.underL (Bs : List HP) : ∀ (As : List HP), Take (Bs ++ As) As Bs
  | [] => by rw [List.append_nil]; exact .nil
  | _ :: As => .cons (Take1.mid Bs) (Take.underL Bs As)
theorem Ent.left : ∀ (As F : List HP), Ent (As ++ F) As
  | [], _ => Ent.nil _
  | _ :: As, F => Ent.cons (Ent.left As F)
theorem sz_mul {w h : Int} (hw : 1 ≤ w ∧ w ≤ 4096) (hh : 1 ≤ h ∧ h ≤ 65536) : 0 ≤ w * h ∧ w * h ≤ 4096 * 65536 := ⟨Int.mul_nonneg (by omega) (by omega), Int.mul_le_mul (by omega) (by omega) (by omega) (by omega)⟩

end Go.Proofs.YtggamdlpiejbiaaGreat
namespace Go.Proofs.YtggamdlpiejbiaaGreat
open Go.RowKit Go.Shelf

def hdW (K W H M : Int) : List Int := [80] ++ Ys K.toNat ++ [10] ++ Ys W.toNat ++ [32] ++ Ys H.toNat ++ [10] ++ (if K = 1 ∨ K = 4 then [] else Ys M.toNat ++ [10])
theorem lit1 (x : UInt8) : (ByteArray.mk #[x]).size = 1 := rfl
theorem digs_sz {n : Int} (h : n ≤ 1000000) : (strOfNums (Ys n.toNat)).size ≤ 1000001 := by
  rw [YZ]
  have := digs_len n.toNat
  omega

end Go.Proofs.YtggamdlpiejbiaaGreat
namespace Go.Proofs.YtggamdlpiejbiaaGreat
open Go.RowKit Go.Shelf


/-- The bits of a byte so far. -/
def hv (l : List Int) (j : Nat) : Nat → Int
  | 0 => 0
  | t + 1 => hv l j t * 2 + (l[8 * j + t]?.getD 0)
end Go.Proofs.YtggamdlpiejbiaaGreat
namespace Go.Proofs.YtggamdlpiejbiaaGreat
open Go.RowKit Go.Shelf
/-- A block whose first cells are these. -/
def rdo (g : Nat) (xs : List Value) : HP where
  p w S := (∀ b, S b ↔ b = g) ∧ g < w.heap.size ∧ ∀ (j : Nat) (u : Value), xs[j]? = some u → w.cell? ⟨g, j, none⟩ = some u
  loc := fun ⟨hs, hg, h⟩ hz hb => ⟨hs, Nat.lt_of_lt_of_le hg hz, fun j u hu => by rw [← h j u hu]; exact cell_same (hb _ ((hs _).2 rfl))⟩
  lt := fun ⟨hs, hg, _⟩ b hb => by rw [(hs b).1 hb]; exact hg
theorem RdsL.rdo {g : Nat} {xs : List Value} : RdsL [Go.Proofs.YtggamdlpiejbiaaGreat.rdo g xs] (some ⟨g, 0, none⟩) xs := by
  intro w U ⟨S, ⟨_, _, h⟩, _⟩
  refine ⟨fun _ => rfl, fun ad had j u hu => ?_⟩
  injection had with had
  subst had
  have := h j u hu
  simpa [Addr.add] using (by by_cases hj : j = 0 <;> simpa [Addr.add, hj] using this : w.cell? ((⟨g, 0, none⟩ : Addr).add j) = some u)
theorem bytes_below (w : World) (e : Nat) (s : ByteArray) : Below w.heap.size w (Lib.bytesWorld w e s) := by
  refine ⟨?_, ?_, ?_, ?_, ?_⟩
  · simp [Lib.bytesWorld, World.freeze, World.alloc, World.drew, -World.alloc_eq, -World.drew_eq]
  · simp [Lib.bytesWorld, World.freeze, World.alloc, World.drew, -World.alloc_eq, -World.drew_eq]
  · simp [Lib.bytesWorld, World.freeze, World.alloc, World.drew, -World.alloc_eq, -World.drew_eq]
  · rw [Lib.bytesWorld_size]; omega
  · intro b hb; exact Lib.bytesWorld_at_old w e s b hb
section
variable {P : Program} {n : Cx} {D : List Deferred} {ops : Array Oper} {rest : List Oper} {Q : Post} {fr : Fr} {l : List HP} {ty : Nat} {pos : String} {aft : Array Edge}
theorem out_bytes {w : World} {U : Nat → Prop} (h : Sat w l U) (e : Nat) (s : ByteArray) : Out (rdo w.heap.size (Xn (QW s)) :: l) U w (Lib.bytesWorld w e s) := by
  have hb := bytes_below w e s
  have h2 : Sat (Lib.bytesWorld w e s) l (fun b => U b ∧ b < w.heap.size) := h.inside.keep hb.size fun b _ hlt => hb.block b hlt
  refine ⟨⟨fun b => b = w.heap.size, ⟨fun _ => Iff.rfl, by rw [Lib.bytesWorld_size]; omega, fun j u hu => ?_⟩, fun b hb => .inr (Nat.le_of_eq hb.symm), h2.mono fun b hb => ⟨.inl hb.1, fun e => ?_⟩⟩, .of_below hb⟩
  · have hj : j < (QW s).length := by
      have := List.getElem?_eq_some_iff.1 hu
      rw [← Q1]; exact this.1
    rw [YQ _ hj] at hu
    injection hu with hu
    have hj2 : j < s.size := by rw [XB] at hj; exact hj
    rw [← hu, Lib.bytesWorld_cell w e s j hj2]
    rw [bsOf_at hj2]
    simp [List.getD, hj2]
    rfl
  · rw [e] at hb; exact absurd hb.2 (Nat.lt_irrefl _)
theorem s_t2b {d T1 T2 e : Nat} {x : Operand} {s : ByteArray} (hd : Nat.blt d n = true) (h1 : P.underlying T1 = some .string) (h2 : P.underlying T2 = some (.slice e)) (h3 : P.underlying e = some (.int .u8)) (hx : ev fr x = some (.string s))
    (k : ∀ g c, WpL P n D ops rest Q ((d, .slice (some ⟨g, 0, none⟩) (QW s).length c) :: fr) (rdo g (Xn (QW s)) :: l)) : WpL P n D ops (⟨some d, .convert T1 T2 x, ty, pos, aft, none⟩ :: rest) Q fr l :=
  Xu hd (σ := Nat × Nat) (fun q => .slice (some ⟨q.1, 0, none⟩) (QW s).length q.2) (fun q => rdo q.1 (Xn (QW s)) :: l) (fun a w U hh hs => ⟨(w.heap.size, grownCap w s.size 0 e), _, by rw [XB]; simp [execOp, hh.ev hx, Lib.run_convert_string_bytes w T1 T2 e s h1 h2 h3], out_bytes hs e s⟩) fun q => k q.1 q.2
end
end Go.Proofs.YtggamdlpiejbiaaGreat
namespace Go.Proofs.YtggamdlpiejbiaaGreat
open Go.RowKit Go.Shelf


theorem fit_can {p C M : Int} (hf : Yc C M) (h : Can C M p) : X1 p C M := ⟨hf, h.1, fun n hn => (h.2.2 n hn).2⟩
theorem kinds_mem {C M k : Int} (h : k ∈ Xh C M) : Yc C M ∧ (1 ≤ k ∧ k ≤ 6) ∧ QZ k = C ∧ ((k = 1 ∨ k = 4) → M = 1) := by
  unfold Xh at h
  split at h
  · rename_i hf
    obtain ⟨i, hi, rfl⟩ := List.mem_map.1 h
    obtain ⟨h1, h2⟩ := List.mem_filter.1 hi
    unfold kP at h2
    simp only [Bool.and_eq_true, decide_eq_true_eq] at h2
    have h3 := List.mem_range.1 h1
    refine ⟨hf, by omega, ?_, by omega⟩
    have := hf.1
    unfold QZ
    split <;> omega
  · simp at h
theorem good_sz {most : Int} {m : Img} (hmo : most ≤ 100) (h : YH most m) : (0 ≤ m.w * m.h ∧ m.w * m.h ≤ 10000) ∧ m.px.length ≤ 10000 := by
  obtain ⟨_, _, hw, hh, hl, _⟩ := h
  have h1 : m.w * m.h ≤ 100 * 100 := Int.mul_le_mul (by omega) (by omega) (by omega) (by omega)
  have h2 : 0 ≤ m.w * m.h := Int.mul_nonneg (by omega) (by omega)
  omega
theorem good_fits {most : Int} {m : Img} {k : Int} (hmo : most ≤ 100) (h : YH most m) (hk : k ∈ Xh m.c m.m) : X6 k m.w m.h m.m ∧ (∀ p ∈ m.px, X1 p (QZ k) m.m) ∧ X7 m.c m.m m.w m.h m.px := by
  obtain ⟨hf, hk6, hc, h1⟩ := kinds_mem hk
  have hz := good_sz hmo h
  obtain ⟨_, hm, hw, hh, hl, hp⟩ := h
  refine ⟨⟨hk6, by omega, by omega, hm, h1⟩, fun p hpp => by rw [hc]; exact fit_can hf (hp p hpp).1, ⟨by omega, by omega, by omega⟩, hl, fun p hpp => fit_can hf (hp p hpp).1⟩
/-- An image's bytes. -/
def wrI (m : Img) (k : Int) : List Int := hdW k m.w m.h m.m ++ (if k < 4 then wrL k m.w 0 m.px else Xk k m.w.toNat (Qi m.m) m.px m.h.toNat)
end Go.Proofs.YtggamdlpiejbiaaGreat
namespace Go.Proofs.YtggamdlpiejbiaaGreat
open Go.RowKit Go.Shelf


theorem s_bs4 {P : Program} {n : Cx} {D : List Deferred} {ops : Array Oper} {rest : List Oper} {Q : Post} {fr : Fr} {l : List HP} {ty : Nat} {pos : String} {aft : Array Edge} {d t e by_ : Nat} {z v v2 v3 v4 : Value} {x x2 x3 x4 : Operand} (hd : Nat.blt d n = true) [ht : SlT P t e 1 by_ z] (hx : ev fr x = some v) (hx2 : ev fr x2 = some v2) (hx3 : ev fr x3 = some v3) (hx4 : ev fr x4 = some v4) (hz : z.cells.size = 1)
    (hv : v.cells = #[v]) (hv2 : v2.cells = #[v2]) (hv3 : v3.cells = #[v3]) (hv4 : v4.cells = #[v4])
    (k : ∀ g, WpL P n D ops rest Q ((d, .slice (some ⟨g, 0, none⟩) 4 4) :: fr) (QB g [v, v2, v3, v4] e :: l)) : WpL P n D ops (⟨some d, .buildSlice t 4 #[(0, x), (1, x2), (2, x3), (3, x4)], ty, pos, aft, none⟩ :: rest) Q fr l :=
  s_bs (os := [(0, x), (1, x2), (2, x3), (3, x4)]) [v, v2, v3, v4] hd hz rfl (by simp [hv, hv2, hv3, hv4]) (by simp) (fun a hh => by simp [hh.ev hx, hh.ev hx2, hh.ev hx3, hh.ev hx4]) k

end Go.Proofs.YtggamdlpiejbiaaGreat
namespace Go.Proofs.YtggamdlpiejbiaaGreat
open Go.RowKit Go.Shelf


theorem bsOf_bd (s : ByteArray) : ∀ b ∈ QW s, 0 ≤ b ∧ b ≤ 255 := by
  intro b hb
  unfold QW at hb
  obtain ⟨x, _, rfl⟩ := List.mem_map.1 hb
  have := UInt8.toNat_lt x
  omega
end Go.Proofs.YtggamdlpiejbiaaGreat
namespace Go.Proofs.YtggamdlpiejbiaaGreat
open Go.RowKit Go.Shelf

def Zl (es : List Evt) : Int := ((es.filter fun x => decide (x.k = 3)).length : Int)
theorem cnt3_app (a b : List Evt) : Zl (a ++ b) = Zl a + Zl b := by unfold Zl; rw [List.filter_append, List.length_append]; push_cast; rfl
def EvOk (es : List Evt) : Prop := ∀ x ∈ es.tail, x.row = []
theorem psEvts_q (s : PS) (bd : Bd) (st e : Int) (row : List Int) : (Yw s bd st e row).1.told = s.told ∧ (Yw s bd st e row).1.imgs = s.imgs + Zl (Yw s bd st e row).2 ∧ EvOk (Yw s bd st e row).2 ∧ (Yw s bd st e row).1.over = s.over := by
  unfold Yw rowE doneE
  by_cases h1 : st = 1 <;> by_cases h2 : st = 2 <;> by_cases h3 : row = [] <;> simp [h1, h2, h3, Zl, EvOk]
  all_goals (subst h2; simp_all)
theorem psHeads_q (s : PS) (h : HS) : (Zg s h).1.told = s.told ∧ (Zg s h).1.imgs = s.imgs + Zl (Zg s h).2 ∧ EvOk (Zg s h).2 ∧ (Zg s h).1.over = s.over := by
  unfold Zg
  repeat' split
  all_goals simp [Zl, EvOk]
theorem psStep_q (l0 l1 l2 : Int) (s : PS) (c : Int) : (psStep l0 l1 l2 s c).1.told = s.told ∧ (psStep l0 l1 l2 s c).1.imgs = s.imgs + Zl (psStep l0 l1 l2 s c).2 ∧ EvOk (psStep l0 l1 l2 s c).2 ∧ (psStep l0 l1 l2 s c).1.over = s.over := by
  unfold psStep
  split
  · split
    · simp [Zl, EvOk]
    · exact psHeads_q _ _
  · split
    · exact psHeads_q _ _
    · unfold psBody
      split
      · simp [Zl, EvOk]
      · exact psEvts_q _ _ _ _ _
      · exact psEvts_q _ _ _ _ _
def aliveP (s : PS) : Prop := s.over = false ∧ s.e = 0
theorem dead_of {s : PS} (h : ¬ aliveP s) : s.over = true ∨ s.e ≠ 0 := by
  unfold aliveP at h
  by_cases he : s.e = 0
  · left; cases ho : s.over with
    | true => rfl
    | false => exact absurd ⟨ho, he⟩ h
  · exact .inr he
theorem psPut_q (l0 l1 l2 : Int) (s : PS) (c : Int) : ((Yx l0 l1 l2 s c).2 ≠ [] → aliveP s) ∧ (aliveP (Yx l0 l1 l2 s c).1 → aliveP s) ∧ (aliveP s → (Yx l0 l1 l2 s c).1.told = s.told + 1) ∧ (Yx l0 l1 l2 s c).1.imgs = s.imgs + Zl (Yx l0 l1 l2 s c).2 ∧ EvOk (Yx l0 l1 l2 s c).2 := by
  by_cases h : aliveP s
  · rw [psPut_ok _ _ _ h.1 h.2]
    have q := psStep_q l0 l1 l2 { s with told := s.told + 1 } c
    exact ⟨fun _ => h, fun _ => h, fun _ => q.1, q.2.1, q.2.2.1⟩
  · rw [psPut_dead _ _ _ (dead_of h)]
    exact ⟨fun q => absurd rfl q, fun q => absurd q h, fun q => absurd q h, by simp [Zl], by simp [EvOk]⟩
theorem ZC (l0 l1 l2 : Int) : ∀ (bs : List Int) (s : PS), (Xi l0 l1 l2 s bs).1.imgs = s.imgs + Zl ((Xi l0 l1 l2 s bs).2.map (·.1))
  | [], s => by simp [Xi, Zl]
  | c :: bs, s => by
    rw [Y3]
    have q := psPut_q l0 l1 l2 s c
    have ih := ZC l0 l1 l2 bs (Yx l0 l1 l2 s c).1
    simp only [Zu, List.map_append, cnt3_app, List.map_map]
    rw [ih, q.2.2.2.1, show ((fun x : Evt × Int => x.1) ∘ fun x => (x, (Yx l0 l1 l2 s c).1.told)) = id from rfl, List.map_id]
    omega
end Go.Proofs.YtggamdlpiejbiaaGreat
namespace Go.Proofs.YtggamdlpiejbiaaGreat
open Go.RowKit Go.Shelf
def okFs (P : Program) : Nat → List Field → Bool
  | _, [] => true
  | i, f :: fs => (f.name != "_") && (f.offset == i) && (match P.underlying f.type with | some (.int .i64) => true | _ => false) && P.plainKey f.type && okFs P (i + 1) fs
theorem run_eqFields {P : Program} (d : Nat) (us vs : List Int) (hl : us.length = vs.length) (w : World) : ∀ (fs : List Field) (i : Nat), i + fs.length = us.length → okFs P i fs = true → (Op.eqFields (d + 1) (QU us).toArray (QU vs).toArray fs).run P w = .ok (decide (us.drop i = vs.drop i)) w
  | [], i, hi, _ => by
    simp only [List.length_nil] at hi
    rw [List.drop_of_length_le (by omega), List.drop_of_length_le (by omega)]
    simp [Op.eqFields]
  | f :: fs, i, hi, hk => by
    simp only [List.length_cons] at hi
    simp only [okFs, Bool.and_eq_true, bne_iff_ne, beq_iff_eq] at hk
    obtain ⟨⟨⟨⟨h1, h2⟩, h3⟩, h4⟩, h5⟩ := hk
    have hu : P.underlying f.type = some (.int .i64) := by
      split at h3
      · assumption
      · cases h3
    have e1 : (part f.type (QU us).toArray f.offset).run P w = .ok (.int .i64 (us[i]'(by omega))) w := run_part_plain w h4 (by rw [h2]; simp [QU, List.getElem?_eq_getElem (show i < us.length by omega)])
    have e2 : (part f.type (QU vs).toArray f.offset).run P w = .ok (.int .i64 (vs[i]'(by omega))) w := run_part_plain w h4 (by rw [h2]; simp [QU, List.getElem?_eq_getElem (show i < vs.length by omega)])
    have ih := run_eqFields (P := P) d us vs hl w fs (i + 1) (by omega) h5
    unfold Op.eqFields
    rw [if_pos h1]
    simp only [Sem.run_bind, e1, e2, Result.andThen_ok, run_equalIn_int w d f.type .i64 .i64 _ _ hu]
    have d1 := List.drop_eq_getElem_cons (show i < us.length by omega)
    have d2 := List.drop_eq_getElem_cons (show i < vs.length by omega)
    by_cases hx : us[i]'(by omega) = vs[i]'(by omega)
    · rw [if_neg (by simp [hx]), ih]
      have q : us.drop (i + 1) = vs.drop (i + 1) ↔ us.drop i = vs.drop i := by
        rw [d1, d2, hx]
        exact ⟨fun e => by rw [e], fun e => (List.cons.inj e).2⟩
      rw [decide_eq_decide.2 q]
    · rw [if_pos (by simp [hx])]
      have q : ¬ us.drop i = vs.drop i := by
        rw [d1, d2]
        exact fun e => hx (List.cons.inj e).1
      rw [decide_eq_false q]
      simp
class AeqT (P : Program) (T : Nat) (k : outParam Nat) : Prop where
  hu : P.underlying T = some (.struct (P.fieldsOf T))
  st : P.stoodInHeld T = false
  gd : P.eqGuardType P.depth T = false
  ok : okFs P 0 (P.fieldsOf T).toList = true
  hk : (P.fieldsOf T).toList.length = k
section
variable {P : Program} {n : Cx} {D : List Deferred} {ops : Array Oper} {rest : List Oper} {Q : Post} {fr : Fr} {l : List HP} {ty : Nat} {pos : String} {aft : Array Edge}
theorem run_aeq {T k : Nat} (hT : AeqT P T k) (us vs : List Int) (h1 : us.length = k) (h2 : vs.length = k) (w : World) : (Op.equalIn 10000 T (.agg (QU us).toArray) (.agg (QU vs).toArray)).run P w = .ok (decide (us = vs)) w := by
  rw [run_equalIn_struct w 9999 T _ _ hT.hu hT.st]
  have := run_eqFields (P := P) 9998 us vs (by omega) w (P.fieldsOf T).toList 0 (by rw [hT.hk]; omega) hT.ok
  simpa using this
theorem s_aeq {d T T2 k : Nat} {x y : Operand} (us vs : List Int) (hd : Nat.blt d n = true) [hT : AeqT P T k] (hx : ev fr x = some (.agg (QU us).toArray)) (hy : ev fr y = some (.agg (QU vs).toArray)) (h1 : us.length = k) (h2 : vs.length = k)
    (kk : WpL P n D ops rest Q ((d, .bool (decide (us = vs))) :: fr) l) : WpL P n D ops (⟨some d, .binOp .eql T x y T2, ty, pos, aft, none⟩ :: rest) Q fr l :=
  QJ hd (fun A w _ hh _ => by
    simp only [execOp, hh.ev hx, hh.ev hy, Sem.run_bind, run_eqGuard_agg w .eql T x y _ _ hT.gd, Result.andThen_ok, run_eql_struct, run_aeq hT us vs h1 h2]
    simp) kk
theorem s_ane {d T T2 k : Nat} {x y : Operand} (us vs : List Int) (hd : Nat.blt d n = true) [hT : AeqT P T k] (hx : ev fr x = some (.agg (QU us).toArray)) (hy : ev fr y = some (.agg (QU vs).toArray)) (h1 : us.length = k) (h2 : vs.length = k)
    (kk : WpL P n D ops rest Q ((d, .bool (decide (us ≠ vs))) :: fr) l) : WpL P n D ops (⟨some d, .binOp .neq T x y T2, ty, pos, aft, none⟩ :: rest) Q fr l :=
  QJ hd (fun A w _ hh _ => by
    simp only [execOp, hh.ev hx, hh.ev hy, Sem.run_bind, run_eqGuard_agg w .neq T x y _ _ hT.gd, Result.andThen_ok, run_neq_struct, run_aeq hT us vs h1 h2]
    simp) kk
end
end Go.Proofs.YtggamdlpiejbiaaGreat
namespace Go.Proofs.YtggamdlpiejbiaaGreat
open Go.RowKit Go.Shelf

instance : AeqT Tryz.prog 48 2 := ⟨by kernel_rfl, by kernel_rfl, by kernel_rfl, by kernel_rfl, by kernel_rfl⟩

theorem SameRowW_spec (As : List HP) (a b : Option Addr) (ca cb : Nat) (xs ys : List Int) (hx : RdsL As a (Q5 xs)) (hy : RdsL As b (Q5 ys)) (hl : xs.length ≤ 9223372036854775807) : Fn Tryz.prog 65 #[.slice a xs.length ca, .slice b ys.length cb] As (fun v l => v = .bool (decide (xs = ys)) ∧ l = As) := by
 refine Qk (vs := [.slice a xs.length ca, .slice b ys.length cb]) Tryz.func65 rfl Tryz.ntmps65 rfl (Qb (Qa (Qe rfl rfl (WpL.nil (Qb (Qb (Qa (Qd rfl rfl (QK rfl rfl (Qd rfl rfl (QK rfl rfl (Xj rfl rfl rfl ?_))))))))))))
 refine WpL.nil (Qm rfl (fun h0 => ?_) (fun h0 => ?_))
 ·refine Qb (Qa (Qe rfl rfl (WpL.nil (Qh ?_))))
  apply RetQ.mk
  ·exact (Res.one rfl rfl)
  ·exact ⟨congrArg Value.bool (df fun e => h0 (by rw [e])), rfl⟩
  ·exact Ent.refl _
 ·have hlen : xs.length = ys.length := by omega
  refine Wp.skip (Qb (Qb (Qa (Qe rfl rfl (WpL.nil (Wp.block ?_))))))
  refine Wp.loopD (σ := Nat) (fun k => k ≤ xs.length ∧ xs.take k = ys.take k) [4, 5, 11, 12, 13, 14, 15, 16, 17, 18, 19, 20, 21, 22, 23, 24, 25] (fun k => [(5, .int .i64 (k : Int))]) (fun _ => _) (fun k => xs.length - k) 0 ?_ (by repeat (first | exact FrLe.nil | refine FrLe.cons rfl ?_)) (Ent.refl _) ?_
  ·exact ⟨Nat.zero_le _, rfl⟩
  ·rintro k ⟨hk, htk⟩
   refine Qb (Qb (Qa (Qd rfl rfl (Qd rfl rfl (QK rfl rfl (Q6 rfl rfl rfl (WpL.nil (Qm rfl (fun h2 => ?_) (fun h2 => ?_)))))))))
   ·have hkx : k < xs.length := by omega
    have hky : k < ys.length := by omega
    refine Wp.skip (Qb (Wp.block ?_))
    refine Qb ?_
    apply QS mixed [⟨17, _, []⟩, ⟨18, _, []⟩, ⟨19, _, [0, 1]⟩, ⟨20, _, [2]⟩, ⟨21, _, []⟩, ⟨22, _, []⟩, ⟨23, _, [4, 5]⟩, ⟨24, _, [6]⟩, ⟨25, _, [3, 7]⟩] rfl
    ·refine AllObs.mk ?_ ?_
     ·exact Qd rfl rfl (Ql rfl)
     refine AllObs.mk ?_ ?_
     ·exact Qd rfl rfl (Ql rfl)
     refine AllObs.mk ?_ ?_
     ·refine Q3 k rfl rfl rfl hx (Ent.refl _) rfl (by omega) (by rw [Xt]; exact hkx) ?_
      exact Ql rfl
     refine AllObs.mk ?_ ?_
     ·refine Xb rfl rfl hx (Ent.refl _) (Yg xs hkx) ?_
      exact Ql rfl
     refine AllObs.mk ?_ ?_
     ·exact Qd rfl rfl (Ql rfl)
     refine AllObs.mk ?_ ?_
     ·exact Qd rfl rfl (Ql rfl)
     refine AllObs.mk ?_ ?_
     ·refine Q3 k rfl rfl rfl hy (Ent.refl _) rfl hky (by rw [Xt]; exact hky) ?_
      exact Ql rfl
     refine AllObs.mk ?_ ?_
     ·refine Xb rfl rfl hy (Ent.refl _) (Yg ys hky) ?_
      exact Ql rfl
     refine AllObs.mk ?_ ?_
     ·exact Xj rfl rfl rfl (Ql rfl)
     exact AllObs.nil
    ·refine Qm rfl (fun h3 => ?_) (fun h3 => ?_)
     ·refine Qb (Qa (Qe rfl rfl (WpL.nil (Qh ?_))))
      apply RetQ.mk
      ·exact (Res.one rfl rfl)
      ·exact ⟨congrArg Value.bool (df fun e => h3 (by subst e; rfl)), rfl⟩
      ·exact Ent.refl _
     ·refine Wp.skip (Qa (Qd rfl rfl (QE rfl rfl rfl (Qt (by omega) (by omega)) ?_)))
      refine Qe rfl rfl (WpL.nil (Qy (k + 1) ?_ ?_ (by ((repeat (first | exact Top.refl | refine Top.push rfl ?_)); done)) (by repeat (first | exact FrLe.nil | refine FrLe.cons rfl ?_)) ?_))
      ·refine ⟨by omega, ?_⟩
       rw [List.take_succ_eq_append_getElem hkx, List.take_succ_eq_append_getElem hky, htk, Classical.not_not.1 h3]
      ·omega
      ·exact Ent.refl _
   ·obtain rfl : k = xs.length := by omega
    have hxy : xs = ys := by rw [List.take_length, hlen, List.take_length] at htk; exact htk
    refine QL (Qb (Qa (Qe rfl rfl (WpL.nil (Qh ?_)))))
    apply RetQ.mk
    ·exact (Res.one rfl rfl)
    ·exact ⟨congrArg Value.bool (dt hxy), rfl⟩
    ·exact Ent.refl _

end Go.Proofs.YtggamdlpiejbiaaGreat
namespace Go.Proofs.YtggamdlpiejbiaaGreat
open Go.RowKit Go.Shelf


def mC (x : Img) (a : Option Addr) (c : Nat) : List Value := [.int .i64 x.c, .int .i64 x.m, .int .i64 x.w, .int .i64 x.h, .slice a x.px.length c]
end Go.Proofs.YtggamdlpiejbiaaGreat
namespace Go.Proofs.YtggamdlpiejbiaaGreat
open Go.RowKit Go.Shelf

structure AsX where
  (k : Nat) (a : Option Addr) (c : Nat)

end Go.Proofs.YtggamdlpiejbiaaGreat
namespace Go.Proofs.YtggamdlpiejbiaaGreat
open Go.RowKit Go.Shelf

theorem Same03_true (As : List HP) (x : Img) (a b : Option Addr) (c c2 : Nat) (hx : RdsL As a (Q5 x.px)) (hy : RdsL As b (Q5 x.px)) (hl : x.px.length ≤ 9223372036854775807) : Fn Tryz.prog 83 #[.agg #[.int .i64 x.w, .int .i64 x.h, .slice a x.px.length c], .agg #[.int .i64 x.w, .int .i64 x.h, .slice b x.px.length c2]] As (fun v l => v = .bool true ∧ l = As) := by
 refine Qk (vs := [.agg #[.int .i64 x.w, .int .i64 x.h, .slice a x.px.length c], .agg #[.int .i64 x.w, .int .i64 x.h, .slice b x.px.length c2]]) Tryz.func83 rfl Tryz.ntmps83 rfl (Qb (Qa (QP rfl rfl rfl ?_)))
 intro g1
 refine QP rfl rfl rfl ?_
 intro g2
 refine Qe rfl rfl (WpL.nil (Qb (Qa (Qj (o2 := 0) rfl rfl rfl (Qo rfl rfl (by rfl) ?_)))))
 refine Qj (o2 := 0) rfl rfl rfl (Qo rfl rfl (by rfl) ?_)
 refine QO rfl rfl rfl (Qd rfl rfl (Qv (dj := 10) rfl (decide_eq_true rfl) ?_))
 refine Qf rfl rfl (Qj (o2 := 1) rfl rfl rfl (Qf rfl rfl (Qo rfl rfl (by rfl) ?_)))
 refine Qf rfl rfl (Qj (o2 := 1) rfl rfl rfl (Qf rfl rfl (Qo rfl rfl (by rfl) ?_)))
 refine Qf rfl rfl (QO rfl rfl rfl (Qx rfl rfl rfl (Qd rfl rfl (Qv (dj := 17) rfl (decide_eq_true rfl) ?_))))
 refine Qf rfl rfl (Qj (o2 := 2) rfl rfl rfl (Qf rfl rfl (Qo rfl rfl (by rfl) ?_)))
 refine Qf rfl rfl (Qj (o2 := 2) rfl rfl rfl (Qf rfl rfl (Qo rfl rfl (by rfl) ?_)))
 refine Qf rfl rfl (Qg rfl rfl (Take.skip (Take.skip Take.all)) (SameRowW_spec As a b c c2 x.px x.px hx hy hl) ?_)
 rintro _ _ ⟨rfl, rfl⟩
 refine Qx rfl rfl rfl (Qe rfl rfl (WpL.nil (Qh ?_)))
 apply RetQ.mk
 ·exact (Res.one rfl rfl)
 ·exact ⟨congrArg Value.bool (decide_eq_true rfl), rfl⟩
 ·exact (Zq rfl).ent'

theorem Same10_true (As : List HP) (x : Img) (a b : Option Addr) (c c2 : Nat) (hx : RdsL As a (Q5 x.px)) (hy : RdsL As b (Q5 x.px)) (hl : x.px.length ≤ 9223372036854775807) : Fn Tryz.prog 40 #[.agg (mC x a c).toArray, .agg (mC x b c2).toArray] As (fun v l => v = .bool true ∧ l = As) := by
 refine Qk (vs := [.agg (mC x a c).toArray, .agg (mC x b c2).toArray]) Tryz.func40 rfl Tryz.ntmps40 rfl (Qb (Qa (QP rfl rfl rfl ?_)))
 intro g1
 refine QP rfl rfl rfl ?_
 intro g2
 refine Qe rfl rfl (WpL.nil (Qb (Qa (Qj (o2 := 2) rfl rfl rfl ?_))))
 refine Qz (vs := [_, _, _]) rfl rfl rfl (by rfl) ?_
 refine Qj (o2 := 2) rfl rfl rfl ?_
 refine Qz (vs := [_, _, _]) rfl rfl rfl (by rfl) ?_
 refine Qg rfl rfl (Take.skip (Take.skip Take.all)) (Same03_true As x a b c c2 hx hy hl) ?_
 rintro _ _ ⟨rfl, rfl⟩
 refine WpL.ent Ent.comm ?_
 simp only [Qr]
 refine Qe rfl rfl (WpL.nil (Qb (Qa (Qd rfl rfl (Qd rfl rfl (Qf rfl rfl (Qj (o2 := 0) rfl rfl rfl (Qf rfl rfl ?_))))))))
 refine Qz (vs := [_, _]) rfl rfl rfl (by rfl) ?_
 refine Qf rfl rfl (Qj (o2 := 0) rfl rfl rfl (Qf rfl rfl ?_))
 refine Qz (vs := [_, _]) rfl rfl rfl (by rfl) ?_
 refine Qf rfl rfl (s_aeq [x.c, x.m] [x.c, x.m] rfl rfl rfl rfl rfl (Qx rfl rfl rfl (Qe rfl rfl (WpL.nil (Qh ?_)))))
 apply RetQ.mk
 ·exact (Res.one rfl rfl)
 ·exact ⟨congrArg Value.bool (decide_eq_true rfl), rfl⟩
 ·exact Ent.drop (Ent.drop (Ent.refl _))

end Go.Proofs.YtggamdlpiejbiaaGreat
namespace Go.Proofs.YtggamdlpiejbiaaGreat
open Go.RowKit Go.Shelf

instance : AeqT Tryz.prog 98 4 := ⟨by kernel_rfl, by kernel_rfl, by kernel_rfl, by kernel_rfl, by kernel_rfl⟩

theorem kindsF_bad {C M : Int} (h : ¬ Yc C M) : Xh C M = [] := if_neg h
theorem kindsF_3 {C M : Int} (h : Yc C M) (h3 : C = 3) : Xh C M = [3, 6] := by
  subst h3
  rw [Xh, if_pos h]
  have : kUp 3 M 7 = [3, 6] := by simp [kUp, kP, List.range_succ]
  exact this
theorem kindsF_1 {C M : Int} (h : Yc C M) (h3 : ¬ C = 3) (h1 : M = 1) : Xh C M = [1, 2, 4, 5] := by
  subst h1
  rw [Xh, if_pos h]
  simp [kUp, kP, List.range_succ, h3]
theorem kindsF_2 {C M : Int} (h : Yc C M) (h3 : ¬ C = 3) (h1 : ¬ M = 1) : Xh C M = [2, 5] := by
  rw [Xh, if_pos h]
  simp [kUp, kP, List.range_succ, h3, h1]

theorem Yq {g T m : Nat} {cs : List Value} {l F : List HP} (hm : cs.length = m) (h : m ≤ 1000) (he : Ent l (QB g cs T :: F)) : Ent l (QG T 1 (some ⟨g, 0, none⟩) m m cs :: F) := he.trans (Zy (by omega) (by omega))

theorem iKinds_spec (C M : Int) : Fn Tryz.prog 44 #[.agg #[.int .i64 C, .int .i64 M]] [] (fun v l => ∃ a c, v = .slice a (Xh C M).length c ∧ l = [QG 3 1 a c (Xh C M).length (QU (Xh C M))]) := by
 refine Qk (vs := [.agg #[.int .i64 C, .int .i64 M]]) Tryz.func44 rfl Tryz.ntmps44 rfl (Qb (Qa (QP rfl rfl rfl ?_)))
 intro g1
 refine Qe rfl rfl (WpL.nil (Qb (Wp.block ?_)))
 refine Qb (Qa ?_)
 refine Qz (vs := [_, _]) rfl rfl rfl (by rfl) ?_
 refine Qg rfl rfl (by repeat' constructor) (YS _ _) ?_
 rintro _ _ ⟨rfl, rfl⟩
 simp only [Qr]
 refine XY rfl rfl (Qe rfl rfl (WpL.nil (Qm rfl (fun h0 => ?_) (fun h0 => ?_))))
 ·refine Qb (Qa (Qe rfl rfl (WpL.nil (Qh ?_))))
  apply RetQ.mk
  ·exact (Res.one rfl rfl)
  ·exact ⟨none, 0, by rw [kindsF_bad (by assumption)]; rfl, rfl⟩
  ·rw [kindsF_bad (by assumption)]
   exact Ent.own_nil (Ent.nil _)
 ·have hf := Classical.not_not.1 h0
  refine Qb (Qa (Qj (o2 := 0) rfl rfl rfl (Qo rfl rfl (by rfl) ?_)))
  refine QO rfl rfl rfl (Qe rfl rfl (WpL.nil (Qm rfl (fun h1 => ?_) (fun h1 => ?_))))
  ·refine Qb (Qa ?_)
   refine s_bs2 rfl rfl rfl rfl rfl rfl ?_
   intro gK
   refine Qe rfl rfl (WpL.nil (Qh ?_))
   apply RetQ.mk
   ·exact (Res.one rfl rfl)
   ·exact ⟨some ⟨gK, 0, none⟩, 2, by rw [kindsF_3 (by assumption) (by assumption)]; rfl, rfl⟩
   ·rw [kindsF_3 (by assumption) (by assumption)]
    exact Yq rfl (by decide) (Take.ent' (by repeat' constructor))
  ·refine Qb (Qa (Qj (o2 := 1) rfl rfl rfl (Qo rfl rfl (by rfl) ?_)))
   refine QO rfl rfl rfl (Qe rfl rfl (WpL.nil (Qm rfl (fun h2 => ?_) (fun h2 => ?_))))
   ·refine Qb (Qa ?_)
    refine s_bs4 rfl rfl rfl rfl rfl rfl rfl rfl rfl rfl ?_
    intro gK
    refine Qe rfl rfl (WpL.nil (Qh ?_))
    apply RetQ.mk
    ·exact (Res.one rfl rfl)
    ·exact ⟨some ⟨gK, 0, none⟩, 4, by rw [kindsF_1 (by assumption) (by assumption) (by assumption)]; rfl, rfl⟩
    ·rw [kindsF_1 (by assumption) (by assumption) (by assumption)]
     exact Yq rfl (by decide) (Take.ent' (by repeat' constructor))
   ·refine Wp.skip (Qb (Qa ?_))
    refine s_bs2 rfl rfl rfl rfl rfl rfl ?_
    intro gK
    refine Qe rfl rfl (WpL.nil (Qh ?_))
    apply RetQ.mk
    ·exact (Res.one rfl rfl)
    ·exact ⟨some ⟨gK, 0, none⟩, 2, by rw [kindsF_2 (by assumption) (by assumption) (by assumption)]; rfl, rfl⟩
    ·rw [kindsF_2 (by assumption) (by assumption) (by assumption)]
     exact Yq rfl (by decide) (Take.ent' (by repeat' constructor))

theorem sIndex_spec (As : List HP) (a : Option Addr) (c : Nat) (zs : List Int) (x : Int) (hA : RdsL As a (QU zs)) (hl : zs.length ≤ 1000000000) : Fn Tryz.prog 147 #[.slice a zs.length c, .int .i64 x] As (fun v l => ∃ r : Int, v = .int .i64 r ∧ (0 ≤ r ↔ x ∈ zs) ∧ l = As) := by
 refine Qk (vs := [.slice a zs.length c, .int .i64 x]) Tryz.func147 rfl Tryz.ntmps147 rfl (Qb (Qa (Qe rfl rfl (WpL.nil (Qb (Qb (Qa (Qd rfl rfl (QK rfl rfl (Qd rfl rfl (WpL.nil (Wp.block ?_))))))))))))
 refine Wp.loopD (σ := Nat) (fun k => k ≤ zs.length ∧ x ∉ zs.take k) [4, 5, 8, 9, 10, 11, 12, 13, 14, 15, 16, 17, 18] (fun k => [(8, .int .i64 (k : Int))]) (fun _ => _) (fun k => zs.length - k) 0 ?_ (by repeat (first | exact FrLe.nil | refine FrLe.cons rfl ?_)) (Ent.refl _) ?_
 ·exact ⟨Nat.zero_le _, by simp⟩
 ·rintro k ⟨hk, hf⟩
  refine Qb (Qa (Q6 rfl rfl rfl (WpL.nil (Qb (Qm rfl (fun h1 => ?_) (fun h1 => ?_))))))
  ·have hlt : k < zs.length := by omega
   refine Wp.skip (Qb (Wp.block ?_))
   refine Qb (Qa (Qd rfl rfl (Qe rfl rfl (WpL.nil (Qb (Qa (Qd rfl rfl (Qd rfl rfl (Qd rfl rfl (Q3 k rfl rfl rfl hA (Ent.refl _) rfl (by omega) (by rw [QX]; omega) ?_))))))))))
   refine Xb rfl rfl hA (Ent.refl _) (XX zs hlt) ?_
   refine QO rfl rfl rfl (WpL.nil (Qm rfl (fun h2 => ?_) (fun h2 => ?_)))
   ·refine Qb (Qa (Qd rfl rfl (Qe rfl rfl (WpL.nil (Qh ?_)))))
    apply RetQ.mk
    ·exact (Res.one rfl rfl)
    ·exact ⟨_, rfl, ⟨fun _ => h2 ▸ List.getElem_mem hlt, fun _ => by omega⟩, rfl⟩
    ·exact Ent.refl _
   ·refine Wp.skip (Qa (QE rfl rfl rfl (Qt (by omega) (by omega)) ?_))
    refine Qd rfl rfl (WpL.nil (Qy (k + 1) ?_ ?_ (by ((repeat (first | exact Top.refl | refine Top.push rfl ?_)); done)) (by repeat (first | exact FrLe.nil | refine FrLe.cons rfl ?_)) ?_))
    ·refine ⟨by omega, fun hp => ?_⟩
     rw [List.take_succ_eq_append_getElem hlt] at hp
     rcases List.mem_append.1 hp with hp | hp
     ·exact hf hp
     ·exact h2 (List.mem_singleton.1 hp)
    ·omega
    ·exact Ent.refl _
  ·refine QL (Qb (Qa (Qe rfl rfl (WpL.nil (Qh ?_)))))
   apply RetQ.mk
   ·exact (Res.one rfl rfl)
   ·have hke : k = zs.length := by omega
    rw [hke, List.take_length] at hf
    exact ⟨_, rfl, ⟨fun h => by omega, fun h => absurd h hf⟩, rfl⟩
   ·exact Ent.refl _

theorem sContains_spec (As : List HP) (a : Option Addr) (c : Nat) (zs : List Int) (x : Int) (hA : RdsL As a (QU zs)) (hl : zs.length ≤ 1000000000) : Fn Tryz.prog 92 #[.slice a zs.length c, .int .i64 x] As (fun v l => v = .bool (decide (x ∈ zs)) ∧ l = As) := by
 refine Qk (vs := [.slice a zs.length c, .int .i64 x]) Tryz.func92 rfl Tryz.ntmps92 rfl (Qb (Qa (Qe rfl rfl (WpL.nil (Qb (Qa (Qd rfl rfl (Qd rfl rfl (Qg rfl rfl Take.all (sIndex_spec As a c zs x hA hl) ?_)))))))))
 rintro _ _ ⟨ri, rfl, hri, rfl⟩
 rw [List.append_nil]
 refine Zo rfl rfl rfl (Qe rfl rfl (WpL.nil (Qh ?_)))
 apply RetQ.mk
 ·exact (Res.one rfl rfl)
 ·exact ⟨congrArg Value.bool (decide_eq_decide.2 hri), rfl⟩
 ·exact Ent.refl _

theorem rcSized_spec (w h : Int) : Fn Tryz.prog 172 #[.int .i64 w, .int .i64 h] [] (fun v l => v = .bool (decide (Yd w h)) ∧ l = []) := by
 refine Qk (vs := [.int .i64 w, .int .i64 h]) Tryz.func172 rfl Tryz.ntmps172 rfl (Qb (Qa (Qe rfl rfl (WpL.nil (Qb (Qa (Qd rfl rfl (Zo rfl rfl rfl (Qd rfl rfl (QH rfl rfl rfl (fun hg1 => ?_) (fun hg1 => ?_)))))))))))
 ·have hg1 := of_decide_eq_true hg1
  refine Qd rfl rfl (Qf rfl rfl (s_le rfl rfl rfl (Qx rfl rfl rfl (Qd rfl rfl (QH rfl rfl rfl (fun hg2 => ?_) (fun hg2 => ?_))))))
  ·have hg2 := of_decide_eq_true hg2
   refine Qd rfl rfl (Qf rfl rfl (Zo rfl rfl rfl (Qx rfl rfl rfl (Qd rfl rfl (QH rfl rfl rfl (fun hg3 => ?_) (fun hg3 => ?_))))))
   ·have hg3 := of_decide_eq_true hg3
    refine Qd rfl rfl (Qf rfl rfl (s_le rfl rfl rfl (Qx rfl rfl rfl (Qd rfl rfl (QH rfl rfl rfl (fun hg4 => ?_) (fun hg4 => ?_))))))
    ·have hg4 := of_decide_eq_true hg4
     have hmb := sz_mul (w := w) (h := h) (by omega) (by omega)
     refine Qd rfl rfl (Qf rfl rfl (Qd rfl rfl (Qf rfl rfl (Xz rfl rfl rfl (Qt (by omega) (by omega)) ?_))))
     refine Qf rfl rfl (s_le rfl rfl rfl (Qx rfl rfl rfl (Qe rfl rfl (WpL.nil (Qh ?_)))))
     apply RetQ.mk
     ·exact (Res.one rfl rfl)
     ·exact ⟨congrArg Value.bool (decide_eq_decide.2 (by unfold Yd; omega)), rfl⟩
     ·exact Ent.refl _
    ·have hg4 := of_decide_eq_false hg4
     refine Qc rfl rfl rfl (by decide) (Qc rfl rfl rfl (by decide) (Qc rfl rfl rfl (by decide) (Qq rfl rfl rfl (Qe rfl rfl (WpL.nil (Qh ?_))))))
     apply RetQ.mk
     ·exact (Res.one rfl rfl)
     ·exact ⟨by rw [decide_eq_false (show ¬Yd w h by unfold Yd; omega)], rfl⟩
     ·exact Ent.refl _
   ·have hg3 := of_decide_eq_false hg3
    refine Qc rfl rfl rfl (by decide) (Qq rfl rfl rfl (Qd rfl rfl (Qc rfl rfl rfl (by decide) (Qc rfl rfl rfl (by decide) (Qc rfl rfl rfl (by decide) (Qc rfl rfl rfl (by decide) (Qq rfl rfl rfl (Qe rfl rfl (WpL.nil (Qh ?_))))))))))
    apply RetQ.mk
    ·exact (Res.one rfl rfl)
    ·exact ⟨by rw [decide_eq_false (show ¬Yd w h by unfold Yd; omega)], rfl⟩
    ·exact Ent.refl _
  ·have hg2 := of_decide_eq_false hg2
   refine Qc rfl rfl rfl (by decide) (Qq rfl rfl rfl (Qd rfl rfl (Qc rfl rfl rfl (by decide) (Qc rfl rfl rfl (by decide) (Qq rfl rfl rfl (Qd rfl rfl (Qc rfl rfl rfl (by decide) (Qc rfl rfl rfl (by decide) (Qc rfl rfl rfl (by decide) (Qc rfl rfl rfl (by decide) (Qq rfl rfl rfl (Qe rfl rfl ?_))))))))))))
   refine WpL.nil (Qh ?_)
   apply RetQ.mk
   ·exact (Res.one rfl rfl)
   ·exact ⟨by rw [decide_eq_false (show ¬Yd w h by unfold Yd; omega)], rfl⟩
   ·exact Ent.refl _
 ·have hg1 := of_decide_eq_false hg1
  refine Qc rfl rfl rfl (by decide) (Qq rfl rfl rfl (Qd rfl rfl (Qc rfl rfl rfl (by decide) (Qc rfl rfl rfl (by decide) (Qq rfl rfl rfl (Qd rfl rfl (Qc rfl rfl rfl (by decide) (Qc rfl rfl rfl (by decide) (Qq rfl rfl rfl (Qd rfl rfl (Qc rfl rfl rfl (by decide) (Qc rfl rfl rfl (by decide) ?_))))))))))))
  refine Qc rfl rfl rfl (by decide) (Qc rfl rfl rfl (by decide) (Qq rfl rfl rfl (Qe rfl rfl (WpL.nil (Qh ?_)))))
  apply RetQ.mk
  ·exact (Res.one rfl rfl)
  ·exact ⟨by rw [decide_eq_false (show ¬Yd w h by unfold Yd; omega)], rfl⟩
  ·exact Ent.refl _

theorem rcMay_spec (W H : Int) (a : Option Addr) (n c : Nat) : Fn Tryz.prog 129 #[.agg #[.int .i64 W, .int .i64 H, .slice a n c]] [] (fun v l => v = .bool (decide (Yd W H ∧ (n : Int) = W * H)) ∧ l = []) := by
 refine Qk (vs := [.agg #[.int .i64 W, .int .i64 H, .slice a n c]]) Tryz.func129 rfl Tryz.ntmps129 rfl (Qb (Qa (QP rfl rfl rfl ?_)))
 intro g1
 refine Qe rfl rfl (WpL.nil (Qb (Qa (Qj (o2 := 0) rfl rfl rfl (Qo rfl rfl (by rfl) ?_)))))
 refine Qj (o2 := 1) rfl rfl rfl (Qo rfl rfl (by rfl) ?_)
 refine Qg rfl rfl (by repeat' constructor) (rcSized_spec _ _) ?_
 rintro _ _ ⟨rfl, rfl⟩
 simp only [Qr]
 refine Qd rfl rfl (QH rfl rfl rfl (fun hg1 => ?_) (fun hg1 => ?_))
 ·have hg1 := of_decide_eq_true hg1
  have hsz2 := hg1
  unfold Yd at hsz2
  have hmb := sz_mul hsz2.1 hsz2.2.1
  refine Qj (o2 := 2) rfl rfl rfl (Qf rfl rfl (Qo rfl rfl (by rfl) ?_))
  refine Qf rfl rfl (QK rfl rfl (Qf rfl rfl (Qj (o2 := 0) rfl rfl rfl (Qf rfl rfl (Qo rfl rfl (by rfl) ?_)))))
  refine Qf rfl rfl (Qj (o2 := 1) rfl rfl rfl (Qf rfl rfl (Qo rfl rfl (by rfl) ?_)))
  refine Qf rfl rfl (Xz rfl rfl rfl (Qt (by omega) (by omega)) ?_)
  refine Qf rfl rfl (QO rfl rfl rfl (Qx rfl rfl rfl (Qe rfl rfl (WpL.nil (Qh ?_)))))
  apply RetQ.mk
  ·exact (Res.one rfl rfl)
  ·exact ⟨congrArg Value.bool (decide_eq_decide.2 ⟨fun q => ⟨hg1, q⟩, fun q => q.2⟩), rfl⟩
  ·exact Ent.nil _
 ·have hg1 := of_decide_eq_false hg1
  refine Qc rfl rfl rfl (by decide) (Qc rfl rfl rfl (by decide) (Qc rfl rfl rfl (by decide) (Qc rfl rfl rfl (by decide) (Qc rfl rfl rfl (by decide) (Qc rfl rfl rfl (by decide) (Qc rfl rfl rfl (by decide) (Qc rfl rfl rfl (by decide) (Qq rfl rfl rfl (Qe rfl rfl (WpL.nil (Qh ?_)))))))))))
  apply RetQ.mk
  ·exact (Res.one rfl rfl)
  ·exact ⟨by rw [decide_eq_false (fun q => hg1 q.1)], rfl⟩
  ·exact Ent.nil _

end Go.Proofs.YtggamdlpiejbiaaGreat
namespace Go.Proofs.YtggamdlpiejbiaaGreat
open Go.RowKit Go.Shelf

theorem OddF_spec (g : Nat) (p ch mx : Int) (h0 : 0 ≤ p) (h1 : p < 18446744073709551616) : Fn Tryz.prog 131 #[.int .u64 p, .pointer (some ⟨g, 0, none⟩)] [QB g [.int .i64 ch, .int .i64 mx] 48] (fun v l => v = .bool (!decide (X1 p ch mx)) ∧ l = [QB g [.int .i64 ch, .int .i64 mx] 48]) := by
 refine Qk (vs := [.int .u64 p, .pointer (some ⟨g, 0, none⟩)]) Tryz.func131 rfl Tryz.ntmps131 rfl ?_
 refine Qb (Qa (Qe rfl rfl (WpL.nil (Qb (Qa (Qd rfl rfl ?_))))))
 refine Qz (vs := [_, _]) rfl rfl rfl (by rfl) ?_
 refine Qg rfl rfl (by repeat' constructor) (Fits_spec _ _ _ h0 h1) ?_
 rintro _ _ ⟨rfl, rfl⟩
 simp only [Qr]
 refine YM rfl rfl (Qe rfl rfl (WpL.nil (Qh ?_)))
 apply RetQ.mk
 ·exact (Res.one rfl rfl)
 ·exact ⟨rfl, rfl⟩
 ·exact Ent.refl _

theorem IndexOddF_spec (As : List HP) (a0 : Option Addr) (c0 : Nat) (px : List Int) (hA : RdsL As a0 (Q5 px)) (hr : ∀ p ∈ px, 0 ≤ p ∧ p < 18446744073709551616) (hl : px.length ≤ 9223372036854775807) (g : Nat) (ch mx : Int) : Fn Tryz.prog 173 #[.slice a0 px.length c0, .func (.func 131) #[] #[.pointer (some ⟨g, 0, none⟩)]] (QB g [.int .i64 ch, .int .i64 mx] 48 :: As) (fun v l => ∃ r : Int, v = .int .i64 r ∧ (0 ≤ r ↔ ¬ ∀ p ∈ px, X1 p ch mx) ∧ l = QB g [.int .i64 ch, .int .i64 mx] 48 :: As) := by
 refine Qk (vs := [.slice a0 px.length c0, .func (.func 131) #[] #[.pointer (some ⟨g, 0, none⟩)]]) Tryz.func173 rfl Tryz.ntmps173 rfl ?_
 refine Qb (Qa (Qe rfl rfl (WpL.nil (Qb (Qb (Qa (Qd rfl rfl (QK rfl rfl (Qd rfl rfl (WpL.nil (Wp.block ?_)))))))))))
 refine Wp.loopD (σ := Nat) (fun k => k ≤ px.length ∧ ∀ p ∈ px.take k, X1 p ch mx) [4, 5, 8, 9, 10, 11, 12, 13, 14, 15, 16, 17, 18] (fun k => [(8, .int .i64 (k : Int))]) (fun k => QB g [.int .i64 ch, .int .i64 mx] 48 :: As) (fun k => px.length - k) 0 ?_ (by repeat (first | exact FrLe.nil | refine FrLe.cons rfl ?_)) ?_ ?_
 ·exact ⟨Nat.zero_le _, by simp⟩
 ·exact Ent.refl _
 ·rintro k ⟨hk, hf⟩
  refine Qb (Qa (Q6 rfl rfl rfl (WpL.nil (Qb (Qm rfl (fun h1 => ?_) (fun h1 => ?_))))))
  ·have hlt : k < px.length := by omega
   have hpb := hr _ (List.getElem_mem hlt)
   refine Wp.skip (Qb (Wp.block ?_))
   refine Qb (Qa (Qd rfl rfl (Qe rfl rfl (WpL.nil (Qb (Qa (Qd rfl rfl (Qd rfl rfl (Qd rfl rfl (Q3 k rfl rfl rfl hA (Ent.drop (Ent.refl _)) rfl (by omega) (by rw [Xt]; omega) ?_))))))))))
   refine Xb rfl rfl hA (Ent.drop (Ent.refl _)) (Yg px hlt) ?_
   refine XU (u := []) (c := [.pointer (some ⟨g, 0, none⟩)]) rfl rfl rfl rfl (by repeat' constructor) (OddF_spec g _ ch mx hpb.1 hpb.2) ?_
   rintro _ _ ⟨rfl, rfl⟩
   simp only [Qr]
   refine WpL.nil (XC rfl (fun h2 => ?_) (fun h2 => ?_))
   ·refine Qb (Qa (Qd rfl rfl (Qe rfl rfl (WpL.nil (Qh ?_)))))
    apply RetQ.mk
    ·exact (Res.one rfl rfl)
    ·exact ⟨_, rfl, ⟨fun _ hall => (by have := hall _ (List.getElem_mem hlt); rw [decide_eq_true this] at h2; cases h2), fun _ => (by omega)⟩, rfl⟩
    ·exact Ent.refl _
   ·refine Wp.skip (Qa (QE rfl rfl rfl (Qt (by omega) (by omega)) ?_))
    refine Qd rfl rfl (WpL.nil (Qy (k + 1) ?_ ?_ (by ((repeat (first | exact Top.refl | refine Top.push rfl ?_)); done)) (by repeat (first | exact FrLe.nil | refine FrLe.cons rfl ?_)) ?_))
    ·refine ⟨by omega, fun p hp => ?_⟩
     rw [Xd px hlt] at hp
     rcases List.mem_append.1 hp with hp | hp
     ·exact hf p hp
     ·have := List.mem_singleton.1 hp; subst this; simpa using h2
    ·omega
    ·exact Ent.refl _
  ·refine QL (Qb (Qa (Qe rfl rfl (WpL.nil (Qh ?_)))))
   apply RetQ.mk
   ·exact (Res.one rfl rfl)
   ·have hke : k = px.length := by omega
    rw [hke, List.take_length] at hf
    exact ⟨_, rfl, ⟨fun h => by omega, fun h => absurd hf h⟩, rfl⟩
   ·exact Ent.refl _

theorem ContainsOddF_spec (As : List HP) (a0 : Option Addr) (c0 : Nat) (px : List Int) (hA : RdsL As a0 (Q5 px)) (hr : ∀ p ∈ px, 0 ≤ p ∧ p < 18446744073709551616) (hl : px.length ≤ 9223372036854775807) (g : Nat) (ch mx : Int) : Fn Tryz.prog 130 #[.slice a0 px.length c0, .func (.func 131) #[] #[.pointer (some ⟨g, 0, none⟩)]] (QB g [.int .i64 ch, .int .i64 mx] 48 :: As) (fun v l => v = .bool (decide (¬ ∀ p ∈ px, X1 p ch mx)) ∧ l = QB g [.int .i64 ch, .int .i64 mx] 48 :: As) := by
 refine Qk (vs := [.slice a0 px.length c0, .func (.func 131) #[] #[.pointer (some ⟨g, 0, none⟩)]]) Tryz.func130 rfl Tryz.ntmps130 rfl ?_
 refine Qb (Qa (Qe rfl rfl (WpL.nil (Qb (Qa (Qd rfl rfl (Qd rfl rfl (Qg rfl rfl Take.all (IndexOddF_spec As a0 c0 px hA hr hl g ch mx) ?_))))))))
 rintro _ _ ⟨ri, rfl, hri, rfl⟩
 rw [List.append_nil]
 refine Zo rfl rfl rfl (Qe rfl rfl (WpL.nil (Qh ?_)))
 apply RetQ.mk
 ·exact (Res.one rfl rfl)
 ·exact ⟨congrArg Value.bool (by rw [decide_eq_decide]; exact hri), rfl⟩
 ·exact Ent.refl _

theorem rcFits_spec (As : List HP) (W H : Int) (a : Option Addr) (c : Nat) (px : List Int) (C M : Int) (hA : RdsL As a (Q5 px)) (hb : ∀ p ∈ px, 0 ≤ p ∧ p < 18446744073709551616) (hl : px.length ≤ 9223372036854775807) : Fn Tryz.prog 85 #[.agg #[.int .i64 W, .int .i64 H, .slice a px.length c], .agg #[.int .i64 C, .int .i64 M]] As (fun v l => v = .bool (decide (X7 C M W H px)) ∧ l = As) := by
 refine Qk (vs := [.agg #[.int .i64 W, .int .i64 H, .slice a px.length c], .agg #[.int .i64 C, .int .i64 M]]) Tryz.func85 rfl Tryz.ntmps85 rfl (Qb (Qa (QP rfl rfl rfl ?_)))
 intro gM
 refine QP rfl rfl rfl ?_
 intro gF
 refine Qe rfl rfl (WpL.nil (Qb (Qa ?_)))
 refine Qz (vs := [_, _, _]) rfl rfl rfl (by rfl) ?_
 refine Qg rfl rfl (by repeat' constructor) (rcMay_spec _ _ _ _ _) ?_
 rintro _ _ ⟨rfl, rfl⟩
 simp only [Qr]
 refine Qd rfl rfl (QH rfl rfl rfl (fun hg1 => ?_) (fun hg1 => ?_))
 ·have hg1 := of_decide_eq_true hg1
  refine Qj (o2 := 2) rfl rfl rfl (Qf rfl rfl (Qo rfl rfl (by rfl) ?_))
  refine Qf rfl rfl (s_mkf rfl (fun a hh => XO hh _ _ rfl) ?_)
  refine Qf rfl rfl (Qg rfl rfl (Take.cons .here (Take.skip Take.all)) (ContainsOddF_spec As a c px hA hb hl gF C M) ?_)
  rintro _ _ ⟨rfl, rfl⟩
  rw [show (QB gF [.int .i64 C, .int .i64 M] 48 :: As) ++ [QB gM [.int .i64 W, .int .i64 H, .slice a px.length c] 77] = QB gF [.int .i64 C, .int .i64 M] 48 :: (As ++ [QB gM [.int .i64 W, .int .i64 H, .slice a px.length c] 77]) from rfl]
  refine Qf rfl rfl (XY rfl rfl (Qx rfl rfl rfl (Qe rfl rfl (WpL.nil (Qh ?_)))))
  apply RetQ.mk
  ·exact (Res.one rfl rfl)
  ·exact ⟨congrArg Value.bool (decide_eq_decide.2 ⟨fun q => ⟨hg1.1, hg1.2, fun p hp => Classical.byContradiction fun z => q fun hall => z (hall p hp)⟩, fun q z => z q.2.2⟩), rfl⟩
  ·exact Ent.drop (Ent.left _ _)
 ·have hg1 := of_decide_eq_false hg1
  refine Qc rfl rfl rfl (by decide) (Qc rfl rfl rfl (by decide) (Qc rfl rfl rfl (by decide) (Qc rfl rfl rfl (by decide) (Qq rfl rfl rfl (Qe rfl rfl (WpL.nil (Qh ?_)))))))
  apply RetQ.mk
  ·exact (Res.one rfl rfl)
  ·exact ⟨by rw [decide_eq_false (fun q : X7 C M W H px => hg1 ⟨q.1, q.2.1⟩)], rfl⟩
  ·exact Ent.drop (Ent.drop (Ent.refl _))

theorem iMay_spec (As : List HP) (C M W H : Int) (a : Option Addr) (c : Nat) (px : List Int) (hA : RdsL As a (Q5 px)) (hb : ∀ p ∈ px, 0 ≤ p ∧ p < 18446744073709551616) (hl : px.length ≤ 9223372036854775807) : Fn Tryz.prog 45 #[.agg #[.int .i64 C, .int .i64 M, .int .i64 W, .int .i64 H, .slice a px.length c]] As (fun v l => v = .bool (decide (X7 C M W H px)) ∧ l = As) := by
 refine Qk (vs := [.agg #[.int .i64 C, .int .i64 M, .int .i64 W, .int .i64 H, .slice a px.length c]]) Tryz.func45 rfl Tryz.ntmps45 rfl (Qb (Qa (QP rfl rfl rfl ?_)))
 intro g1
 refine Qe rfl rfl (WpL.nil (Qb (Qa (Qj (o2 := 2) rfl rfl rfl ?_))))
 refine Qz (vs := [_, _, _]) rfl rfl rfl (by rfl) ?_
 refine Qj (o2 := 0) rfl rfl rfl ?_
 refine Qz (vs := [_, _]) rfl rfl rfl (by rfl) ?_
 refine Qg rfl rfl (Take.underL [_] As) (rcFits_spec As W H a c px C M hA hb hl) ?_
 rintro _ _ ⟨rfl, rfl⟩
 refine Qe rfl rfl (WpL.nil (Qh ?_))
 apply RetQ.mk
 ·exact (Res.one rfl rfl)
 ·exact ⟨rfl, rfl⟩
 ·exact Ent.left _ _

theorem iHead_spec (As : List HP) (C M W H : Int) (a : Option Addr) (c : Nat) (px : List Int) (hA : RdsL As a (Q5 px)) (hb : ∀ p ∈ px, 0 ≤ p ∧ p < 18446744073709551616) (hl : px.length ≤ 9223372036854775807) (k : Int) : Fn Tryz.prog 49 #[.agg #[.int .i64 C, .int .i64 M, .int .i64 W, .int .i64 H, .slice a px.length c], .int .i64 k] As (fun v l => ((k ∈ Xh C M ∧ X7 C M W H px) ∧ v = .tuple #[.agg #[.int .i64 k, .int .i64 W, .int .i64 H, .int .i64 M], .int .i64 0] ∨ ¬ (k ∈ Xh C M ∧ X7 C M W H px) ∧ v = .tuple #[.agg #[.int .i64 0, .int .i64 0, .int .i64 0, .int .i64 0], .int .i64 1]) ∧ l = As) := by
 refine Qk (vs := [.agg #[.int .i64 C, .int .i64 M, .int .i64 W, .int .i64 H, .slice a px.length c], .int .i64 k]) Tryz.func49 rfl Tryz.ntmps49 rfl (Qb (Qa (QP rfl rfl rfl ?_)))
 intro gI
 refine XK rfl ?_
 intro gH
 refine Qe rfl rfl (WpL.nil (Qb (Qb (Qa ?_))))
 refine Qz (vs := [_, _, _, _, _]) rfl rfl rfl (by rfl) ?_
 refine Qg rfl rfl (Take.underL [_, _] As) (iMay_spec As C M W H a c px hA hb hl) ?_
 rintro _ _ ⟨rfl, rfl⟩
 refine WpL.ent Ent.comm ?_
 simp only [Qr]
 refine XY rfl rfl (Qd rfl rfl (QH rfl rfl rfl (fun hg1 => ?_) (fun hg1 => ?_)))
 ·have hg1 := of_decide_eq_false hg1
  refine Qj (o2 := 0) rfl rfl rfl (Qf rfl rfl ?_)
  refine Qz (vs := [_, _]) rfl rfl rfl (by rfl) ?_
  refine Qf rfl rfl (Qg rfl rfl (by repeat' constructor) (iKinds_spec C M) ?_)
  rintro _ _ ⟨aK, cK, rfl, rfl⟩
  simp only [Qr]
  refine Qf rfl rfl (Qd rfl rfl (Qf rfl rfl (Qg rfl rfl (by repeat' constructor) (sContains_spec [QG 3 1 aK cK (Xh C M).length (QU (Xh C M))] aK cK (Xh C M) k QI (by have := kinds_len (C := C) (M := M); omega)) ?_)))
  rintro _ _ ⟨rfl, rfl⟩
  simp only [Qr]
  refine Qf rfl rfl (XY rfl rfl (Qq rfl rfl rfl (WpL.nil (Qm rfl (fun h0 => ?_) (fun h0 => ?_)))))
  ·refine Qb (Qa ?_)
   refine XN rfl rfl ?_
   refine QY rfl rfl rfl (by rfl) rfl ?_
   refine Qe rfl rfl (WpL.nil (Qh ?_))
   apply RetQ.mk
   ·exact (Xl rfl rfl (by rfl) rfl)
   ·exact ⟨.inr ⟨fun q => (by assumption : ¬ k ∈ Xh C M) q.1, rfl⟩, rfl⟩
   ·repeat (first | exact Ent.refl _ | refine Ent.drop ?_)
  ·refine Wp.skip (Qb (Qa (Qd rfl rfl (Qj (o2 := 2) rfl rfl rfl (Qj (o2 := 2) rfl rfl rfl (Qo rfl rfl (by rfl) ?_))))))
   refine Qj (o2 := 2) rfl rfl rfl (Qj (o2 := 3) rfl rfl rfl (Qo rfl rfl (by rfl) ?_))
   refine Qj (o2 := 0) rfl rfl rfl (Qj (o2 := 1) rfl rfl rfl (Qo rfl rfl (by rfl) ?_))
   refine XN rfl rfl ?_
   refine QY rfl rfl rfl (by rfl) rfl ?_
   refine Qe rfl rfl (WpL.nil (Qh ?_))
   apply RetQ.mk
   ·exact (Xl rfl rfl (by rfl) rfl)
   ·exact ⟨.inl ⟨⟨Classical.not_not.1 (by assumption), Classical.not_not.1 (by assumption)⟩, rfl⟩, rfl⟩
   ·repeat (first | exact Ent.refl _ | refine Ent.drop ?_)
 ·have hg1 := of_decide_eq_true hg1
  refine Qc rfl rfl rfl (by decide) (Qc rfl rfl rfl (by decide) (Qc rfl rfl rfl (by decide) (Qc rfl rfl rfl (by decide) (Qc rfl rfl rfl (by decide) (Qx rfl rfl rfl (WpL.nil (XG rfl (Qb (Qa ?_)))))))))
  refine XN rfl rfl ?_
  refine QY rfl rfl rfl (by rfl) rfl ?_
  refine Qe rfl rfl (WpL.nil (Qh ?_))
  apply RetQ.mk
  ·exact (Xl rfl rfl (by rfl) rfl)
  ·exact ⟨.inr ⟨fun q => (by assumption : ¬ X7 C M W H px) q.2, rfl⟩, rfl⟩
  ·repeat (first | exact Ent.refl _ | refine Ent.drop ?_)

end Go.Proofs.YtggamdlpiejbiaaGreat
