/- Walks and plain laws, a part of the proof of PnmJoins: every input that the law's guards let in, no condition beside. -/
import Derived.Shelf.Strings.Builder1
import Derived.Shelf.Strings.OnBuilder
import Derived.Shelf.Small.Strs
import Derived.Shelf.Strings.Search1
import Derived.Test.YtggamdlpiejbiaaGreatProg
import Derived.Test.YtggamdlpiejbiaaGreatM06
namespace Go.Proofs
open Go.Shelf
def Tryz.lays156_ren : Go.Shelf.Ren := ⟨fun | 156 => 142 | 165 => 180 | 166 => 138 | 169 => 141 | 240 => 179 | 241 => 199 | 276 => 198 | 277 => 205 | n => n, fun | 31 => 214 | 9 => 9 | 3 => 3 | 4 => 4 | 0 => 0 | 20 => 20 | 72 => 207 | 76 => 210 | 70 => 205 | 37 => 22 | 75 => 209 | 127 => 245 | 164 => 260 | 5 => 5 | 80 => 213 | n => n, fun | n => n⟩
theorem Tryz.lays156 : Go.Proofs.Lays.n156 Tryz.prog Tryz.lays156_ren := {
  mixed := by kernel_rfl
  f156 := Tryz.func142.trans (congrArg some (by kernel_rfl))
  f165 := Tryz.func180.trans (congrArg some (by kernel_rfl))
  f166 := Tryz.func138.trans (congrArg some (by kernel_rfl))
  f169 := Tryz.func141.trans (congrArg some (by kernel_rfl))
  f240 := Tryz.func179.trans (congrArg some (by kernel_rfl))
  f241 := Tryz.func199.trans (congrArg some (by kernel_rfl))
  f276 := Tryz.func198.trans (congrArg some (by kernel_rfl))
  f277 := Tryz.func205.trans (congrArg some (by kernel_rfl))
  t0 := Tryz.underlying0
  a0 := Tryz.isAgg0
  z0 := Tryz.sizeOf0
  v0 := Tryz.zeroValue0
  t3 := Tryz.underlying3
  a3 := Tryz.isAgg3
  z3 := Tryz.sizeOf3
  v3 := Tryz.zeroValue3
  t4 := Tryz.underlying4
  a4 := Tryz.isAgg4
  z4 := Tryz.sizeOf4
  v4 := Tryz.zeroValue4
  t9 := Tryz.underlying9
  a9 := Tryz.isAgg9
  z9 := Tryz.sizeOf9
  v9 := Tryz.zeroValue9
  t20 := Tryz.underlying20
  a20 := Tryz.isAgg20
  z20 := Tryz.sizeOf20
  v20 := Tryz.zeroValue20
  t31 := Tryz.underlying214
  a31 := Tryz.isAgg214
  z31 := Tryz.sizeOf214
  v31 := Tryz.zeroValue214
  t37 := Tryz.underlying22
  a37 := Tryz.isAgg22
  z37 := Tryz.sizeOf22
  v37 := Tryz.zeroValue22
  t70 := Tryz.underlying205
  a70 := Tryz.isAgg205
  z70 := Tryz.sizeOf205
  v70 := Tryz.zeroValue205
  t72 := Tryz.underlying207
  a72 := Tryz.isAgg207
  z72 := Tryz.sizeOf207
  v72 := Tryz.zeroValue207
  t75 := Tryz.underlying209
  a75 := Tryz.isAgg209
  z75 := Tryz.sizeOf209
  v75 := Tryz.zeroValue209
  t76 := Tryz.underlying210
  a76 := Tryz.isAgg210
  z76 := Tryz.sizeOf210
  v76 := Tryz.zeroValue210
  t127 := Tryz.underlying245
  a127 := Tryz.isAgg245
  z127 := Tryz.sizeOf245
  v127 := Tryz.zeroValue245
  t164 := Tryz.underlying260
  a164 := Tryz.isAgg260
  z164 := Tryz.sizeOf260
  v164 := Tryz.zeroValue260 }
theorem Tryz.Builder_Extra_156 : Builder.Extra Tryz.prog Tryz.lays156_ren := {
  sizeBuilder := by kernel_rfl
  liesBuilder := by kernel_rfl
  t5 := Tryz.underlying5
  a5 := Tryz.isAgg5
  z5 := Tryz.sizeOf5
  v5 := Tryz.zeroValue5
  infoByte := by kernel_rfl
  cellsByte := by kernel_rfl
  sizeByte := by kernel_rfl
  neB5 := by decide }
open Go.RowKit in
open Go.RowKit in
/-- strings.Join: "Join concatenates the elements of its first argument to create a single string. The separator string sep is placed between elements in the resulting string.": HOWEVER MANY ELEMENTS. Below the heap's end the world is as it was. (LAID: no walk: one application.) -/
theorem Tryz.strings_Join (bk o c : Nat) (xs : List ByteArray) (sep : ByteArray) (w : World) (hcells : ∀ (j : Nat) x, xs[j]? = some x → w.cell? ⟨bk, o + j, none⟩ = some (.string x)) (hbk : bk < w.heap.size) (hN : xs.length ≤ 140737488355328) (hcap : xs.length ≤ c) (hlen : (Lib.join (xs.map (·.data.toList)) sep.data.toList).length ≤ 140737488355328) :
    Calls Tryz.prog 142 #[.slice (some ⟨bk, o, none⟩) xs.length c, .string sep] w fun e w' => e = .returned (.string ⟨(Lib.join (xs.map (·.data.toList)) sep.data.toList).toArray⟩) ∧ Below w.heap.size w w' := Any.strings_Join Tryz.lays156 Tryz.Builder_Extra_156 bk o c xs sep w hcells hbk hN hcap hlen
def Tryz.lays137_ren : Go.Shelf.Ren := ⟨fun | 137 => 161 | 217 => 189 | 266 => 201 | n => n, fun | 9 => 9 | 5 => 5 | 3 => 3 | n => n, fun | n => n⟩
theorem Tryz.lays137 : Go.Proofs.Lays.n137 Tryz.prog Tryz.lays137_ren := {
  mixed := by kernel_rfl
  f137 := Tryz.func161.trans (congrArg some (by kernel_rfl))
  f217 := Tryz.func189.trans (congrArg some (by kernel_rfl))
  f266 := Tryz.func201.trans (congrArg some (by kernel_rfl))
  t3 := Tryz.underlying3
  a3 := Tryz.isAgg3
  z3 := Tryz.sizeOf3
  v3 := Tryz.zeroValue3
  t5 := Tryz.underlying5
  a5 := Tryz.isAgg5
  z5 := Tryz.sizeOf5
  v5 := Tryz.zeroValue5
  t9 := Tryz.underlying9
  a9 := Tryz.isAgg9
  z9 := Tryz.sizeOf9
  v9 := Tryz.zeroValue9 }
open Go.RowKit in
/-- strings.IndexByte: "IndexByte returns the index of the first instance of c in s, or -1 if c is not present in s.": IT RETURNS 'Lib.indexByte s c'; the world is as it was. (LAID: no walk: one application.) -/
theorem Tryz.strings_IndexByte (s : ByteArray) (c : Int) (w : World) :
    Calls Tryz.prog 161 #[.string s, .int .u8 c] w fun e w' => e = .returned (.int .i64 (Lib.indexByte s.data.toList c.toNat.toUInt8)) ∧ w' = w := Any.strings_IndexByte Tryz.lays137 s c w
end Go.Proofs
namespace Go.Proofs.YtggamdlpiejbiaaGreat
open Go.RowKit Go.Shelf


def Q6 (c : Int) : Bool := decide (c = 9 ∨ c = 10 ∨ c = 11 ∨ c = 12 ∨ c = 13 ∨ c = 32)
theorem blank_ix (c : Int) (h0 : 0 ≤ c) (h1 : c ≤ 255) : decide ((0 : Int) ≤ Lib.indexByte [9, 10, 11, 12, 13, 32] c.toNat.toUInt8) = Q6 c := by
  obtain ⟨k, rfl⟩ := Int.eq_ofNat_of_zero_le h0
  have hk : k < 256 := by omega
  clear h0 h1
  revert k
  decide +kernel

theorem Yh (c : Int) (h0 : 0 ≤ c) (h1 : c ≤ 255) : Fn Tryz.prog 111 #[.int .u8 c] [] (fun v l => v = .bool (Q6 c) ∧ l = []) := by
 refine Qk (vs := [.int .u8 c]) Tryz.func111 rfl Tryz.ntmps111 rfl (Qb (Qa (Qe rfl rfl (WpL.nil (Qb (Qa (Qc rfl rfl (Qh rfl rfl (by repeat' constructor) (Fn.of_same (Tryz.strings_IndexByte _ _)) ?_))))))))
 rintro _ _ ⟨rfl, rfl⟩
 simp only [Qr]
 refine s_ge rfl rfl rfl (Qe rfl rfl (WpL.nil (Qi ?_)))
 apply RetQ.mk
 ·exact (Res.one rfl rfl)
 ·exact ⟨congrArg Value.bool (blank_ix c h0 h1), rfl⟩
 ·exact Ent.refl _

theorem ZW (K W H M : Int) : Fn Tryz.prog 76 #[.agg #[.int .i64 K, .int .i64 W, .int .i64 H, .int .i64 M]] [] (fun v l => v = .bool (decide (4 ≤ K ∧ K ≤ 6)) ∧ l = []) := by
 refine Qk (vs := [.agg #[.int .i64 K, .int .i64 W, .int .i64 H, .int .i64 M]]) Tryz.func76 rfl Tryz.ntmps76 rfl (Qb (Qa (Q9 rfl rfl rfl ?_)))
 intro g1
 refine Qe rfl rfl (WpL.nil (Qb (Qa (Qj (o2 := 0) rfl rfl rfl (Qo rfl rfl (by rfl) ?_)))))
 refine s_ge rfl rfl rfl (Qc rfl rfl (QK rfl rfl rfl (fun hg1 => ?_) (fun hg1 => ?_)))
 ·have hg1 := of_decide_eq_true hg1
  refine Qj (o2 := 0) rfl rfl rfl (Qf rfl rfl (Qo rfl rfl (by rfl) ?_))
  refine Qf rfl rfl (s_le rfl rfl rfl (Qt rfl rfl rfl (Qe rfl rfl (WpL.nil (Qi ?_)))))
  apply RetQ.mk
  ·exact (Res.one rfl rfl)
  ·exact ⟨congrArg Value.bool (by exact dd (by omega)), rfl⟩
  ·exact Ent.nil _
 ·have hg1 := of_decide_eq_false hg1
  refine Qd rfl rfl rfl (by decide) (Qd rfl rfl rfl (by decide) (Qs rfl rfl rfl (Qe rfl rfl (WpL.nil (Qi ?_)))))
  apply RetQ.mk
  ·exact (Res.one rfl rfl)
  ·exact ⟨congrArg Value.bool (by exact df (by omega)), rfl⟩
  ·exact Ent.nil _

theorem bits_spec (K W H M : Int) : Fn Tryz.prog 136 #[.agg #[.int .i64 K, .int .i64 W, .int .i64 H, .int .i64 M]] [] (fun v l => v = .bool (decide (K = 1 ∨ K = 4)) ∧ l = []) := by
 refine Qk (vs := [.agg #[.int .i64 K, .int .i64 W, .int .i64 H, .int .i64 M]]) Tryz.func136 rfl Tryz.ntmps136 rfl (Qb (Qa (Q9 rfl rfl rfl ?_)))
 intro g1
 refine Qe rfl rfl (WpL.nil (Qb (Qa (Qj (o2 := 0) rfl rfl rfl (Qo rfl rfl (by rfl) ?_)))))
 refine QN rfl rfl rfl (Qc rfl rfl (QK rfl rfl rfl (fun hg1 => ?_) (fun hg1 => ?_)))
 ·have hg1 := of_decide_eq_false hg1
  refine Qj (o2 := 0) rfl rfl rfl (Qf rfl rfl (Qo rfl rfl (by rfl) ?_))
  refine Qf rfl rfl (QN rfl rfl rfl (Qs rfl rfl rfl (Qe rfl rfl (WpL.nil (Qi ?_)))))
  apply RetQ.mk
  ·exact (Res.one rfl rfl)
  ·exact ⟨congrArg Value.bool (by exact dd (by omega)), rfl⟩
  ·exact Ent.nil _
 ·have hg1 := of_decide_eq_true hg1
  refine Qd rfl rfl rfl (by decide) (Qd rfl rfl rfl (by decide) (Qt rfl rfl rfl (Qe rfl rfl (WpL.nil (Qi ?_)))))
  apply RetQ.mk
  ·exact (Res.one rfl rfl)
  ·exact ⟨congrArg Value.bool (by exact dt (by omega)), rfl⟩
  ·exact Ent.nil _

theorem in_spec (x y : Int) : Fn Tryz.prog 176 #[.int .i64 x, .int .i64 y] [] (fun v l => v = .bool (decide (1 ≤ x ∧ x ≤ y)) ∧ l = []) := by
 refine Qk (vs := [.int .i64 x, .int .i64 y]) Tryz.func176 rfl Tryz.ntmps176 rfl (Qb (Qa (Qe rfl rfl (WpL.nil (Qb (Qa (Qc rfl rfl (s_ge rfl rfl rfl (Qc rfl rfl (QK rfl rfl rfl (fun hg1 => ?_) (fun hg1 => ?_)))))))))))
 ·have hg1 := of_decide_eq_true hg1
  refine Qc rfl rfl (Qf rfl rfl (Qc rfl rfl (Qf rfl rfl (s_le rfl rfl rfl (Qt rfl rfl rfl (Qe rfl rfl (WpL.nil (Qi ?_))))))))
  apply RetQ.mk
  ·exact (Res.one rfl rfl)
  ·exact ⟨congrArg Value.bool (by exact dd (by omega)), rfl⟩
  ·exact Ent.refl _
 ·have hg1 := of_decide_eq_false hg1
  refine Qd rfl rfl rfl (by decide) (Qd rfl rfl rfl (by decide) (Qs rfl rfl rfl (Qe rfl rfl (WpL.nil (Qi ?_)))))
  apply RetQ.mk
  ·exact (Res.one rfl rfl)
  ·exact ⟨congrArg Value.bool (by exact df (by omega)), rfl⟩
  ·exact Ent.refl _

def Xv (K W H M : Int) : Prop := (1 ≤ K ∧ K ≤ 6) ∧ (1 ≤ W ∧ W ≤ 4096) ∧ (1 ≤ H ∧ H ≤ 65536) ∧ (1 ≤ M ∧ M ≤ 65535) ∧ ((K = 1 ∨ K = 4) → M = 1)
instance (K W H M : Int) : Decidable (Xv K W H M) := by unfold Xv; infer_instance

theorem May_spec (K W H M : Int) : Fn Tryz.prog 134 #[.agg #[.int .i64 K, .int .i64 W, .int .i64 H, .int .i64 M]] [] (fun v l => v = .bool (decide (Xv K W H M)) ∧ l = []) := by
 refine Qk (vs := [.agg #[.int .i64 K, .int .i64 W, .int .i64 H, .int .i64 M]]) Tryz.func134 rfl Tryz.ntmps134 rfl (Qb (Qa (Q9 rfl rfl rfl ?_)))
 intro g1
 refine Qe rfl rfl (WpL.nil (Qb (Qa (Qe rfl rfl (WpL.nil (Qb (Qa (Qc rfl rfl (Qj (o2 := 0) rfl rfl rfl (Qo rfl rfl (by rfl) ?_))))))))))
 refine X3 (u := []) (c := []) rfl rfl rfl rfl (by repeat' constructor) (in_spec _ _) ?_
 rintro _ _ ⟨rfl, rfl⟩
 simp only [Qr]
 refine Qc rfl rfl (QK rfl rfl rfl (fun hg1 => ?_) (fun hg1 => ?_))
 ·have hg1 := of_decide_eq_true hg1
  refine Qc rfl rfl (Qf rfl rfl (Qj (o2 := 1) rfl rfl rfl (Qf rfl rfl (Qo rfl rfl (by rfl) ?_))))
  refine Qf rfl rfl (X3 (u := []) (c := []) rfl rfl rfl rfl (by repeat' constructor) (in_spec _ _) ?_)
  rintro _ _ ⟨rfl, rfl⟩
  simp only [Qr]
  refine Qt rfl rfl rfl (Qc rfl rfl (QK rfl rfl rfl (fun hg2 => ?_) (fun hg2 => ?_)))
  ·have hg2 := of_decide_eq_true hg2
   refine Qc rfl rfl (Qf rfl rfl (Qj (o2 := 2) rfl rfl rfl (Qf rfl rfl (Qo rfl rfl (by rfl) ?_))))
   refine Qf rfl rfl (X3 (u := []) (c := []) rfl rfl rfl rfl (by repeat' constructor) (in_spec _ _) ?_)
   rintro _ _ ⟨rfl, rfl⟩
   simp only [Qr]
   refine Qt rfl rfl rfl (Qc rfl rfl (QK rfl rfl rfl (fun hg3 => ?_) (fun hg3 => ?_)))
   ·have hg3 := of_decide_eq_true hg3
    refine Qc rfl rfl (Qf rfl rfl (Qj (o2 := 3) rfl rfl rfl (Qf rfl rfl (Qo rfl rfl (by rfl) ?_))))
    refine Qf rfl rfl (X3 (u := []) (c := []) rfl rfl rfl rfl (by repeat' constructor) (in_spec _ _) ?_)
    rintro _ _ ⟨rfl, rfl⟩
    simp only [Qr]
    refine Qt rfl rfl rfl (Qc rfl rfl (QK rfl rfl rfl (fun hg4 => ?_) (fun hg4 => ?_)))
    ·have hg4 := of_decide_eq_true hg4
     refine QI (vs := [_, _, _, _]) rfl rfl rfl (by rfl) ?_
     refine Qf rfl rfl (Qh rfl rfl (by repeat' constructor) (bits_spec _ _ _ _) ?_)
     rintro _ _ ⟨rfl, rfl⟩
     simp only [Qr]
     refine Qf rfl rfl (XN rfl rfl (Qf rfl rfl (Qc rfl rfl (QK rfl rfl rfl (fun hg5 => ?_) (fun hg5 => ?_)))))
     ·have hg5 := of_decide_eq_false hg5
      refine Qj (o2 := 3) rfl rfl rfl (Qf rfl rfl (Qo rfl rfl (by rfl) ?_))
      refine Qf rfl rfl (QN rfl rfl rfl (Qf rfl rfl (Qs rfl rfl rfl (Qt rfl rfl rfl (Qe rfl rfl (WpL.nil (Qi ?_)))))))
      apply RetQ.mk
      ·exact (Res.one rfl rfl)
      ·exact ⟨congrArg Value.bool (by exact dd (by unfold Xv; omega)), rfl⟩
      ·exact Ent.nil _
     ·have hg5 := of_decide_eq_true hg5
      refine Qd rfl rfl rfl (by decide) (Qd rfl rfl rfl (by decide) (Qf rfl rfl (Qt rfl rfl rfl (Qt rfl rfl rfl (Qe rfl rfl (WpL.nil (Qi ?_)))))))
      apply RetQ.mk
      ·exact (Res.one rfl rfl)
      ·exact ⟨congrArg Value.bool (by exact dt (by unfold Xv; omega)), rfl⟩
      ·exact Ent.nil _
    ·have hg4 := of_decide_eq_false hg4
     refine Qd rfl rfl rfl (by decide) (Qd rfl rfl rfl (by decide) (Qd rfl rfl rfl (by decide) (Xb rfl rfl rfl (Xb rfl rfl rfl (Xb rfl rfl rfl (Qd rfl rfl rfl (by decide) (Qs rfl rfl rfl (Qe rfl rfl (WpL.nil (Qi ?_))))))))))
     apply RetQ.mk
     ·exact (Res.one rfl rfl)
     ·exact ⟨congrArg Value.bool (by exact df (by unfold Xv; omega)), rfl⟩
     ·exact Ent.nil _
   ·have hg3 := of_decide_eq_false hg3
    refine Qd rfl rfl rfl (by decide) (Qd rfl rfl rfl (by decide) (Qd rfl rfl rfl (by decide) (Qs rfl rfl rfl (Qc rfl rfl (Qd rfl rfl rfl (by decide) (Qd rfl rfl rfl (by decide) (Qd rfl rfl rfl (by decide) (Qd rfl rfl rfl (by decide) (Xb rfl rfl rfl (Xb rfl rfl rfl (Xb rfl rfl rfl (Qd rfl rfl rfl (by decide) ?_))))))))))))
    refine Qs rfl rfl rfl (Qe rfl rfl (WpL.nil (Qi ?_)))
    apply RetQ.mk
    ·exact (Res.one rfl rfl)
    ·exact ⟨congrArg Value.bool (by exact df (by unfold Xv; omega)), rfl⟩
    ·exact Ent.nil _
  ·have hg2 := of_decide_eq_false hg2
   refine Qd rfl rfl rfl (by decide) (Qd rfl rfl rfl (by decide) (Qd rfl rfl rfl (by decide) (Qs rfl rfl rfl (Qc rfl rfl (Qd rfl rfl rfl (by decide) (Qd rfl rfl rfl (by decide) (Qd rfl rfl rfl (by decide) (Qd rfl rfl rfl (by decide) (Qs rfl rfl rfl (Qc rfl rfl (Qd rfl rfl rfl (by decide) (Qd rfl rfl rfl (by decide) ?_))))))))))))
   refine Qd rfl rfl rfl (by decide) (Qd rfl rfl rfl (by decide) (Xb rfl rfl rfl (Xb rfl rfl rfl (Xb rfl rfl rfl (Qd rfl rfl rfl (by decide) (Qs rfl rfl rfl (Qe rfl rfl (WpL.nil (Qi ?_)))))))))
   apply RetQ.mk
   ·exact (Res.one rfl rfl)
   ·exact ⟨congrArg Value.bool (by exact df (by unfold Xv; omega)), rfl⟩
   ·exact Ent.nil _
 ·have hg1 := of_decide_eq_false hg1
  refine Qd rfl rfl rfl (by decide) (Qd rfl rfl rfl (by decide) (Qd rfl rfl rfl (by decide) (Qs rfl rfl rfl (Qc rfl rfl (Qd rfl rfl rfl (by decide) (Qd rfl rfl rfl (by decide) (Qd rfl rfl rfl (by decide) (Qd rfl rfl rfl (by decide) (Qs rfl rfl rfl (Qc rfl rfl (Qd rfl rfl rfl (by decide) (Qd rfl rfl rfl (by decide) ?_))))))))))))
  refine Qd rfl rfl rfl (by decide) (Qd rfl rfl rfl (by decide) (Qs rfl rfl rfl (Qc rfl rfl (Qd rfl rfl rfl (by decide) (Qd rfl rfl rfl (by decide) (Qd rfl rfl rfl (by decide) (Qd rfl rfl rfl (by decide) (Xb rfl rfl rfl (Xb rfl rfl rfl (Xb rfl rfl rfl (Qd rfl rfl rfl (by decide) (Qs rfl rfl rfl ?_))))))))))))
  refine Qe rfl rfl (WpL.nil (Qi ?_))
  apply RetQ.mk
  ·exact (Res.one rfl rfl)
  ·exact ⟨congrArg Value.bool (by exact df (by unfold Xv; omega)), rfl⟩
  ·exact Ent.nil _

theorem XJ (K W H M : Int) (hK : 0 ≤ K) : Fn Tryz.prog 79 #[.agg #[.int .i64 K, .int .i64 W, .int .i64 H, .int .i64 M]] [] (fun v l => v = .agg #[.int .i64 (if K % 3 = 0 then 3 else 1), .int .i64 M] ∧ l = []) := by
 refine Qk (vs := [.agg #[.int .i64 K, .int .i64 W, .int .i64 H, .int .i64 M]]) Tryz.func79 rfl Tryz.ntmps79 rfl (Qb (Qa (Q9 rfl rfl rfl ?_)))
 intro g1
 refine YE rfl ?_
 intro g2
 refine WpL.nil (Qb (Qb (Qa (Qj (o2 := 0) rfl rfl rfl (Qo rfl rfl (by rfl) ?_)))))
 refine YV rfl rfl rfl (by omega) (by omega) ?_
 refine QN rfl rfl rfl (WpL.nil (Ql rfl (fun h0 => ?_) (fun h0 => ?_)))
 ·refine Qb (Qa (Qj (o2 := 3) rfl rfl rfl (Qo rfl rfl (by rfl) ?_)))
  refine YI rfl rfl ?_
  refine XL rfl rfl rfl (by rfl) rfl ?_
  refine WpL.nil (Qi ?_)
  apply RetQ.mk
  ·exact (XO rfl rfl (by rfl))
  ·exact ⟨by rw [if_pos (by assumption)], rfl⟩
  ·exact Ent.nil _
 ·refine Wp.skip (Qb (Qa (Qj (o2 := 3) rfl rfl rfl (Qo rfl rfl (by rfl) ?_))))
  refine YI rfl rfl ?_
  refine XL rfl rfl rfl (by rfl) rfl ?_
  refine WpL.nil (Qi ?_)
  apply RetQ.mk
  ·exact (XO rfl rfl (by rfl))
  ·exact ⟨by rw [if_neg (by assumption)], rfl⟩
  ·exact Ent.nil _

end Go.Proofs.YtggamdlpiejbiaaGreat
namespace Go.Proofs.YtggamdlpiejbiaaGreat
open Go.RowKit Go.Shelf


/-- A pixel's samples, joined. -/
def Ya : List Int → Int → Int
  | [], p => p
  | n :: l, p => Ya l (p * 65536 + n)
def Z7 (n : Int) : Prop := 0 ≤ n ∧ n ≤ 65535
instance (n : Int) : Decidable (Z7 n) := by unfold Z7; infer_instance
theorem packF_snoc (l : List Int) (n p : Int) : Ya (l ++ [n]) p = Ya l p * 65536 + n := by
  induction l generalizing p with
  | nil => rfl
  | cons m l ih => exact ih _
theorem packF_bd (l : List Int) (h : ∀ n ∈ l, Z7 n) : 0 ≤ Ya l 0 ∧ Ya l 0 < 65536 ^ l.length := by
  suffices ∀ (l : List Int) (p : Int) (k : Nat), (∀ n ∈ l, Z7 n) → 0 ≤ p → p < 65536 ^ k → 0 ≤ Ya l p ∧ Ya l p < 65536 ^ (k + l.length) by
    have := this l 0 0 h (by omega) (by simp)
    simpa using this
  intro l
  induction l with
  | nil => intro p k _ h0 h1; exact ⟨h0, by simp [Ya]; exact h1⟩
  | cons n l ih =>
    intro p k hs h0 h1
    have hn := hs n (by simp)
    unfold Z7 at hn
    have := ih (p * 65536 + n) (k + 1) (fun m hm => hs m (by simp [hm])) (by omega) (by rw [Int.pow_succ]; omega)
    simp only [List.length_cons]
    rw [show k + (l.length + 1) = k + 1 + l.length by omega]
    exact this
theorem Xd (l : List Int) {k : Nat} (h : k < l.length) : l.take (k + 1) = l.take k ++ [l[k]] := by
  rw [List.take_succ_eq_append_getElem h]
def Xx (l : List Int) : Int × Int := if l.length ≠ 1 ∧ l.length ≠ 3 then (0, 1) else if (l.all fun n => decide (0 ≤ n ∧ n ≤ 65535)) = true then (Ya l 0 + l.length * 281474976710656, 0) else (0, 4)
theorem packS_bad (l : List Int) (h : l.length = 1 ∨ l.length = 3) {k : Nat} (hk : k < l.length) (hb : ¬ Z7 l[k]) : Xx l = (0, 4) := by
  unfold Xx
  rw [if_neg (by omega), if_neg]
  intro ha
  have := List.all_eq_true.1 ha l[k] (List.getElem_mem hk)
  exact hb (by simpa [Z7] using this)
theorem packS_ok (l : List Int) (h : l.length = 1 ∨ l.length = 3) (hs : ∀ n ∈ l, Z7 n) : Xx l = (Ya l 0 + l.length * 281474976710656, 0) := by
  unfold Xx
  rw [if_neg (by omega), if_pos]
  exact List.all_eq_true.2 fun n hn => by have := hs n hn; unfold Z7 at this; simp; omega
theorem packF_step {l : List Int} {k : Nat} (hk : k < l.length) (h3 : l.length ≤ 3) (hs : ∀ n ∈ l.take k, Z7 n) : 0 ≤ Ya (l.take k) 0 ∧ Ya (l.take k) 0 < 4294967296 := by
  have h := packF_bd _ hs
  refine ⟨h.1, Int.lt_of_lt_of_le h.2 ?_⟩
  have : (l.take k).length ≤ 2 := by rw [List.length_take]; omega
  have e : (l.take k).length = 0 ∨ (l.take k).length = 1 ∨ (l.take k).length = 2 := by omega
  rcases e with e | e | e <;> rw [e] <;> decide
theorem packF_all {l : List Int} (h3 : l.length ≤ 3) (hs : ∀ n ∈ l, Z7 n) : 0 ≤ Ya l 0 ∧ Ya l 0 < 281474976710656 := by
  have h := packF_bd _ hs
  refine ⟨h.1, Int.lt_of_lt_of_le h.2 ?_⟩
  have e : l.length = 0 ∨ l.length = 1 ∨ l.length = 2 ∨ l.length = 3 := by omega
  rcases e with e | e | e | e <;> rw [e] <;> decide

theorem Pack_spec (As : List HP) (a : Option Addr) (c : Nat) (xs : List Int) (hA : RdsL As a (QY xs)) (hm : xs.length ≤ 281474976710656) : Fn Tryz.prog 186 #[.slice a xs.length c] As (fun v l => v = .tuple #[.int .u64 (Xx xs).1, .int .i64 (Xx xs).2] ∧ l = As) := by
 refine Qk (vs := [.slice a xs.length c]) Tryz.func186 rfl Tryz.ntmps186 rfl (Qb (Qa (Qe rfl rfl (Qe rfl rfl (WpL.nil ?_)))))
 refine Wp.cut (xs.length = 1 ∨ xs.length = 3) [2, 3, 7, 8, 9, 10, 11, 12, 13, 14] ?_ (fun hc0 => ?_)
 ·refine Qb (Qa (Qc rfl rfl (QC rfl rfl (Xn rfl rfl rfl (Qc rfl rfl (QK rfl rfl rfl (fun hg1 => ?_) (fun hg1 => ?_)))))))
  ·have hg1 := of_decide_eq_true hg1
   refine Qc rfl rfl (Qf rfl rfl (QC rfl rfl (Qf rfl rfl (Xn rfl rfl rfl (Qt rfl rfl rfl (WpL.nil (Ql rfl (fun h0 => ?_) (fun h0 => ?_))))))))
   ·refine Qb (Qa (Qe rfl rfl (Qe rfl rfl (WpL.nil (Qi ?_)))))
    apply RetQ.mk
    ·exact (QB rfl rfl rfl)
    ·exact ⟨by rw [Xx, if_pos (by omega)], rfl⟩
    ·exact Ent.refl _
   ·refine Wp.skip ?_
    refine ZN ?_ (by ((repeat (first | exact Top.refl | refine Top.push rfl ?_)); done)) (by exact Ent.refl _)
    omega
  ·have hg1 := of_decide_eq_false hg1
   refine Qd rfl rfl rfl (by decide) (Qd rfl rfl rfl (by decide) (Qs rfl rfl rfl (WpL.nil (QZ rfl (Wp.skip ?_)))))
   refine ZN ?_ (by ((repeat (first | exact Top.refl | refine Top.push rfl ?_)); done)) (by exact Ent.refl _)
   omega
 ·refine Qb (Qa (Qe rfl rfl (WpL.nil (Qb (Qb (Qa (Qc rfl rfl (QC rfl rfl (Qc rfl rfl (WpL.nil (Wp.block ?_)))))))))))
  refine Wp.loopD (σ := Nat) (fun k => k ≤ xs.length ∧ ∀ n ∈ xs.take k, Z7 n) [2, 3, 4, 6, 17, 18, 19, 20, 21, 22, 23, 24, 25, 26, 27, 28, 29, 30, 31, 32] (fun k => [(17, .int .i64 (k : Int)), (4, .int .u64 (Ya (xs.take k) 0))]) (fun _ => _) (fun k => xs.length - k) 0 ?_ (FrLe.cons rfl (FrLe.cons rfl FrLe.nil)) (Ent.refl _) ?_
  ·exact ⟨Nat.zero_le _, by simp⟩
  ·rintro k ⟨hk, hsm⟩
   refine Qb (Qa (Q7 rfl rfl rfl (WpL.nil (Qb (Ql rfl (fun h2 => ?_) (fun h2 => ?_))))))
   ·have hlt : k < xs.length := by omega
    refine Wp.skip (Qb (Wp.block ?_))
    refine Qb (Qa (Q4 k rfl rfl rfl hA (by (repeat (exact Ent.refl _))) rfl (by omega) (by simp only [lens]; omega) ?_))
    refine Q5 rfl rfl hA (by (repeat (exact Ent.refl _))) (Xi xs hlt) ?_
    refine Qe rfl rfl (WpL.nil ?_)
    refine Wp.cut (Z7 xs[k]) [2, 3, 21, 22, 23, 24, 25, 26] ?_ (fun hc3 => ?_)
    ·refine Qb (Qa (Qc rfl rfl (Q7 rfl rfl rfl (Qc rfl rfl (QK rfl rfl rfl (fun hg2 => ?_) (fun hg2 => ?_))))))
     ·have hg2 := of_decide_eq_false hg2
      refine Qc rfl rfl (Qf rfl rfl (Zm rfl rfl rfl (Qs rfl rfl rfl (WpL.nil (Ql rfl (fun h3 => ?_) (fun h3 => ?_))))))
      ·refine Qb (Qa (Qe rfl rfl (Qe rfl rfl (WpL.nil (Qi ?_)))))
       apply RetQ.mk
       ·exact (QB rfl rfl rfl)
       ·exact ⟨by rw [packS_bad xs (by omega) hlt (by unfold Z7; omega)], rfl⟩
       ·exact Ent.refl _
      ·refine Wp.skip ?_
       refine ZN ?_ (by ((repeat (first | exact Top.refl | refine Top.push rfl ?_)); done)) (by exact Ent.refl _)
       unfold Z7; omega
     ·have hg2 := of_decide_eq_true hg2
      refine Qd rfl rfl rfl (by decide) (Qt rfl rfl rfl (WpL.nil (Xc rfl (Qb (Qa (Qe rfl rfl (Qe rfl rfl (WpL.nil (Qi ?_)))))))))
      apply RetQ.mk
      ·exact (QB rfl rfl rfl)
      ·exact ⟨by rw [packS_bad xs (by omega) hlt (by unfold Z7; omega)], rfl⟩
      ·exact Ent.refl _
    ·have hp := packF_step hlt (by omega) hsm
     have hgood := hc3
     unfold Z7 at hc3
     have hstep : Ya (xs.take k) 0 * 65536 + xs[k] = Ya (xs.take (k + 1)) 0 := by rw [Xd xs hlt, packF_snoc]
     refine Qa (Qc rfl rfl (s_shl 65536 rfl rfl rfl (by decide) (Z6 (by omega) (by omega)) ?_))
     refine Qc rfl rfl (Yg rfl Tryz.underlying3 rfl (Z6 (by omega) (by omega)) ?_)
     refine s_or (Ya (xs.take k) 0) 16 rfl rfl rfl (by simp) hp.1 (by simp only [IntKind.bits]; omega) hc3.1 (by omega) (by decide) (Z6 (by omega) (by omega)) ?_
     refine Qe rfl rfl (WpL.nil (Qa (QD rfl rfl rfl (Qu (by omega) (by omega)) ?_)))
     refine Qc rfl rfl (WpL.nil (Qv (k + 1) ?_ ?_ (by ((repeat (first | exact Top.refl | refine Top.push rfl ?_)); done)) (FrLe.cons rfl (FrLe.cons (congrArg (fun x => some (Value.int .u64 x)) hstep) FrLe.nil)) ?_))
     ·refine ⟨by omega, ?_⟩
      rw [Xd xs hlt]
      intro n hn
      rcases List.mem_append.1 hn with hn | hn
      ·exact hsm n hn
      ·have := List.mem_singleton.1 hn; subst this; exact hgood
     ·omega
     ·exact Ent.refl _
   ·have hke : k = xs.length := by omega
    have hsm' : ∀ n ∈ xs, Z7 n := by rw [hke, List.take_length] at hsm; exact hsm
    have hpa := packF_all (by omega) hsm'
    have hpt : Ya (xs.take k) 0 = Ya xs 0 := by rw [hke, List.take_length]
    refine QM (Qb (Qa (Qc rfl rfl (Qc rfl rfl (QC rfl rfl (Yg rfl Tryz.underlying3 rfl (Z6 (by omega) (by omega)) ?_))))))
    refine s_shl 281474976710656 rfl rfl rfl (by decide) (Z6 (by omega) (by omega)) ?_
    rw [hpt]
    refine s_orw xs.length 48 rfl rfl rfl (by simp) (by omega) (by simp only [IntKind.bits]; omega) hpa.1 (by omega) (by decide) (Z6 (by omega) (by omega)) ?_
    refine Qe rfl rfl (Qe rfl rfl (WpL.nil (Qi ?_)))
    apply RetQ.mk
    ·exact (QB rfl rfl rfl)
    ·exact ⟨by rw [packS_ok xs (by omega) hsm', Int.add_comm], rfl⟩
    ·exact Ent.refl _


def Qn (p : Int) : List Int := if p / 281474976710656 = 3 then [p / 4294967296 % 65536, p / 65536 % 65536, p % 65536] else if p / 281474976710656 = 1 ∧ p / 4294967296 % 65536 = 0 ∧ p / 65536 % 65536 = 0 then [p % 65536] else []
/-- A slice handed back that may be read. -/
def SlI (v : Value) (l : List HP) (xs : List Int) : Prop := ∃ A a c, l = [A] ∧ v = .slice a xs.length c ∧ RdsL [A] a (QY xs) ∧ (xs = [] → a = none)
theorem SlI.nil {xs : List Int} (h : xs = []) : SlI (.slice none 0 0) [emp] xs := ⟨emp, none, 0, rfl, by simp [h], by rw [h]; exact RdsL.nil, fun _ => rfl⟩
theorem SlI.blk {g o T c m : Nat} {cs : List Value} {xs : List Int} (h : (cs.drop o).take xs.length = QY xs) (hm : xs.length = m) (hn : 0 < m) : SlI (.slice (some ⟨g, o, none⟩) m c) [QA g cs T] xs := by
  subst hm
  exact ⟨_, _, c, rfl, rfl, RdsL.blk (by rw [QT]; exact h), fun e => by rw [e] at hn; cases hn⟩

theorem Yf (p : Int) (h0 : 0 ≤ p) (h1 : p < 18446744073709551616) : Fn Tryz.prog 139 #[.int .u64 p] [] (fun v l => SlI v l (Qn p)) := by
 refine Qk (vs := [.int .u64 p]) Tryz.func139 rfl Tryz.ntmps139 rfl (Qb (Qa (Qe rfl rfl (WpL.nil (Qb (Qa (Qc rfl rfl (s_shr 4294967296 rfl rfl rfl (by decide) (by decide) (s_and 65536 16 rfl rfl rfl (by decide) (by omega) (by simp only [IntKind.bits]; omega) (Z6 (by omega) (by omega)) ?_)))))))))
 refine Yg rfl Tryz.underlying92 rfl (Qu (by omega) (by omega)) ?_
 refine Qc rfl rfl (s_shr 65536 rfl rfl rfl (by decide) (by decide) (s_and 65536 16 rfl rfl rfl (by decide) (by omega) (by simp only [IntKind.bits]; omega) (Z6 (by omega) (by omega)) ?_))
 refine Yg rfl Tryz.underlying92 rfl (Qu (by omega) (by omega)) ?_
 refine Qc rfl rfl (s_and 65536 16 rfl rfl rfl (by decide) (by omega) (by simp only [IntKind.bits]; omega) (Z6 (by omega) (by omega)) ?_)
 refine Yg rfl Tryz.underlying92 rfl (Qu (by omega) (by omega)) ?_
 refine YI rfl rfl ?_
 refine YE rfl ?_
 intro g1
 refine XL rfl rfl rfl (by rfl) rfl ?_
 refine WpL.nil (Qb (Wp.block ?_))
 refine Qb (Qa (Qc rfl rfl (s_shr 281474976710656 rfl rfl rfl (by decide) (by decide) (QN rfl rfl rfl (Qe rfl rfl (WpL.nil (Ql rfl (fun h0 => ?_) (fun h0 => ?_))))))))
 ·refine Qb (Qa (s_slar rfl rfl rfl (Qe rfl rfl (WpL.nil (Qi ?_)))))
  apply RetQ.mk
  ·exact (Res.one rfl rfl)
  ·have e : Qn p = [p / 4294967296 % 65536, p / 65536 % 65536, p % 65536] := by rw [Qn, if_pos (by omega)]
   rw [e]
   exact SlI.blk (T := 231) (o := 0) (cs := [.int .i64 (p / 4294967296 % 65536), .int .i64 (p / 65536 % 65536), .int .i64 (p % 65536)]) rfl rfl (by decide)
  ·exact Ent.refl _
 ·refine Qb (Qa (Qc rfl rfl (s_shr 281474976710656 rfl rfl rfl (by decide) (by decide) (QN rfl rfl rfl (Qc rfl rfl (QK rfl rfl rfl (fun hg1 => ?_) (fun hg1 => ?_)))))))
  ·have hg1 := of_decide_eq_true hg1
   refine s_ixar (i := 0) (o2 := 0) rfl rfl rfl rfl rfl (Qf rfl rfl (Qo rfl rfl (by rfl) ?_))
   refine Qf rfl rfl (QN rfl rfl rfl (Qt rfl rfl rfl (Qc rfl rfl (QK rfl rfl rfl (fun hg2 => ?_) (fun hg2 => ?_)))))
   ·have hg2 := of_decide_eq_true hg2
    refine s_ixar (i := 1) (o2 := 1) rfl rfl rfl rfl rfl (Qf rfl rfl (Qo rfl rfl (by rfl) ?_))
    refine Qf rfl rfl (QN rfl rfl rfl (Qt rfl rfl rfl (Qe rfl rfl (WpL.nil (Ql rfl (fun h1 => ?_) (fun h1 => ?_))))))
    ·refine Qb (Qa (s_slar2 (i := 2) (o2 := 2) rfl rfl rfl rfl rfl (Qe rfl rfl (WpL.nil (Qi ?_)))))
     apply RetQ.mk
     ·exact (Res.one rfl rfl)
     ·have e : Qn p = [p % 65536] := by rw [Qn, if_neg (by omega), if_pos (by omega)]
      rw [e]
      exact SlI.blk (T := 231) (o := 2) (cs := [.int .i64 (p / 4294967296 % 65536), .int .i64 (p / 65536 % 65536), .int .i64 (p % 65536)]) rfl rfl (by decide)
     ·exact Ent.refl _
    ·refine Wp.skip (Qb (Qa (Qe rfl rfl (WpL.nil (Qi ?_)))))
     apply RetQ.mk
     ·exact (Res.one rfl rfl)
     ·exact SlI.nil (by rw [Qn, if_neg (by omega), if_neg (by omega)])
     ·exact Yy (Ent.nil _)
   ·have hg2 := of_decide_eq_false hg2
    refine Qd rfl rfl rfl (by decide) (Qd rfl rfl rfl (by decide) (Qs rfl rfl rfl (Qe rfl rfl (WpL.nil (QZ rfl (Wp.skip (Qb (Qa (Qe rfl rfl (WpL.nil (Qi ?_)))))))))))
    apply RetQ.mk
    ·exact (Res.one rfl rfl)
    ·exact SlI.nil (by rw [Qn, if_neg (by omega), if_neg (by omega)])
    ·exact Yy (Ent.nil _)
  ·have hg1 := of_decide_eq_false hg1
   refine Qd rfl rfl rfl (by decide) (Qd rfl rfl rfl (by decide) (Qs rfl rfl rfl (Qc rfl rfl (Qd rfl rfl rfl (by decide) (Qd rfl rfl rfl (by decide) (Qd rfl rfl rfl (by decide) (Qs rfl rfl rfl (Qe rfl rfl (WpL.nil (QZ rfl (Wp.skip (Qb ?_))))))))))))
   refine Qa (Qe rfl rfl (WpL.nil (Qi ?_)))
   apply RetQ.mk
   ·exact (Res.one rfl rfl)
   ·exact SlI.nil (by rw [Qn, if_neg (by omega), if_neg (by omega)])
   ·exact Yy (Ent.nil _)

theorem Vh (p : Int) (h0 : 0 ≤ p) (h1 : p < 18446744073709551616) : Fn Tryz.prog 99 #[.int .u64 p] [] (fun v l => SlI v l (Qn p)) := by
 refine Qk (vs := [.int .u64 p]) Tryz.func99 rfl Tryz.ntmps99 rfl (Qb (Qa (Qe rfl rfl (WpL.nil (Qb (Qa (Qc rfl rfl (ZG rfl rfl rfl (by omega) (by omega) (Z6 (by omega) (by omega)) ?_))))))))
 refine Qe rfl rfl (WpL.nil (Qb (Qa (Qc rfl rfl (YV rfl rfl rfl (by omega) (by omega) ?_)))))
 refine Yg rfl Tryz.underlying92 rfl (Qu (by omega) (by omega)) ?_
 refine Qe rfl rfl (WpL.nil (Qb (Qb (Qa (Qc rfl rfl (QN rfl rfl rfl (WpL.nil (Ql rfl (fun h0 => ?_) (fun h0 => ?_)))))))))
 ·refine Qb (Qa (Qc rfl rfl (ZG rfl rfl rfl (by omega) (by omega) (Qu (by omega) (by omega)) ?_)))
  refine Qc rfl rfl (ZG rfl rfl rfl (by omega) (by omega) (Qu (by omega) (by omega)) ?_)
  refine YV rfl rfl rfl (by omega) (by omega) ?_
  refine Qc rfl rfl (YV rfl rfl rfl (by omega) (by omega) ?_)
  refine s_bs3 rfl rfl rfl rfl rfl rfl rfl rfl ?_
  intro g1
  refine Qe rfl rfl (WpL.nil (Qi ?_))
  apply RetQ.mk
  ·exact (Res.one rfl rfl)
  ·have e : Qn p = [p % 281474976710656 / 4294967296, p % 281474976710656 / 65536 % 65536, p % 281474976710656 % 65536] := by rw [Qn, if_pos (by omega), show p / 4294967296 % 65536 = p % 281474976710656 / 4294967296 by omega, show p / 65536 % 65536 = p % 281474976710656 / 65536 % 65536 by omega, show p % 65536 = p % 281474976710656 % 65536 by omega]
   rw [e]
   exact SlI.blk (T := 3) (o := 0) (cs := [.int .i64 (p % 281474976710656 / 4294967296), .int .i64 (p % 281474976710656 / 65536 % 65536), .int .i64 (p % 281474976710656 % 65536)]) rfl rfl (by decide)
  ·exact Ent.refl _
 ·refine Wp.skip (Qb (Qb (Qa (Qc rfl rfl (QN rfl rfl rfl (Qc rfl rfl (QK rfl rfl rfl (fun hg1 => ?_) (fun hg1 => ?_))))))))
  ·have hg1 := of_decide_eq_true hg1
   refine Qc rfl rfl (Qf rfl rfl (Q7 rfl rfl rfl (Qt rfl rfl rfl (WpL.nil (Ql rfl (fun h1 => ?_) (fun h1 => ?_))))))
   ·refine Qb (Qa (Qc rfl rfl ?_))
    refine Yb rfl rfl rfl rfl ?_
    intro g2
    refine Qe rfl rfl (WpL.nil (Qi ?_))
    apply RetQ.mk
    ·exact (Res.one rfl rfl)
    ·have e : Qn p = [p % 281474976710656] := by rw [Qn, if_neg (by omega), if_pos (by omega), show p % 65536 = p % 281474976710656 by omega]
     rw [e]
     exact SlI.blk (T := 3) (o := 0) (cs := [.int .i64 (p % 281474976710656)]) rfl rfl (by decide)
    ·exact Ent.refl _
   ·refine Wp.skip (Qb (Qa (Qe rfl rfl (WpL.nil (Qi ?_)))))
    apply RetQ.mk
    ·exact (Res.one rfl rfl)
    ·exact SlI.nil (by rw [Qn, if_neg (by omega), if_neg (by omega)])
    ·exact Yy (Ent.nil _)
  ·have hg1 := of_decide_eq_false hg1
   refine Qd rfl rfl rfl (by decide) (Qs rfl rfl rfl (WpL.nil (QZ rfl (Wp.skip (Qb (Qa (Qe rfl rfl (WpL.nil (Qi ?_)))))))))
   apply RetQ.mk
   ·exact (Res.one rfl rfl)
   ·exact SlI.nil (by rw [Qn, if_neg (by omega), if_neg (by omega)])
   ·exact Yy (Ent.nil _)

def YF (ch mx : Int) : Prop := (ch = 1 ∨ ch = 3) ∧ 1 ≤ mx ∧ mx ≤ 65535
instance (ch mx : Int) : Decidable (YF ch mx) := by unfold YF; infer_instance

theorem Zr (ch mx : Int) : Fn Tryz.prog 84 #[.agg #[.int .i64 ch, .int .i64 mx]] [] (fun v l => v = .bool (decide (YF ch mx)) ∧ l = []) := by
 refine Qk (vs := [.agg #[.int .i64 ch, .int .i64 mx]]) Tryz.func84 rfl Tryz.ntmps84 rfl (Qb (Qa (Q9 rfl rfl rfl ?_)))
 intro g1
 refine Qe rfl rfl (WpL.nil (Qb (Qa (Qj (o2 := 0) rfl rfl rfl (Qo rfl rfl (by rfl) ?_)))))
 refine QN rfl rfl rfl (Qc rfl rfl (QK rfl rfl rfl (fun hg1 => ?_) (fun hg1 => ?_)))
 ·have hg1 := of_decide_eq_false hg1
  refine Qj (o2 := 0) rfl rfl rfl (Qf rfl rfl (Qo rfl rfl (by rfl) ?_))
  refine Qf rfl rfl (QN rfl rfl rfl (Qs rfl rfl rfl (Qc rfl rfl (QK rfl rfl rfl (fun hg2 => ?_) (fun hg2 => ?_)))))
  ·have hg2 := of_decide_eq_true hg2
   refine Qj (o2 := 1) rfl rfl rfl (Qf rfl rfl (Qo rfl rfl (by rfl) ?_))
   refine Qf rfl rfl (s_ge rfl rfl rfl (Qt rfl rfl rfl (Qc rfl rfl (QK rfl rfl rfl (fun hg3 => ?_) (fun hg3 => ?_)))))
   ·have hg3 := of_decide_eq_true hg3
    refine Qj (o2 := 1) rfl rfl rfl (Qf rfl rfl (Qo rfl rfl (by rfl) ?_))
    refine Qf rfl rfl (s_le rfl rfl rfl (Qt rfl rfl rfl (Qe rfl rfl (WpL.nil (Qi ?_)))))
    apply RetQ.mk
    ·exact (Res.one rfl rfl)
    ·exact ⟨congrArg Value.bool (by exact dd (by unfold YF; omega)), rfl⟩
    ·exact Ent.nil _
   ·have hg3 := of_decide_eq_false hg3
    refine Qd rfl rfl rfl (by decide) (Qd rfl rfl rfl (by decide) (Qs rfl rfl rfl (Qe rfl rfl (WpL.nil (Qi ?_)))))
    apply RetQ.mk
    ·exact (Res.one rfl rfl)
    ·exact ⟨congrArg Value.bool (by exact df (by unfold YF; omega)), rfl⟩
    ·exact Ent.nil _
  ·have hg2 := of_decide_eq_false hg2
   refine Qd rfl rfl rfl (by decide) (Qd rfl rfl rfl (by decide) (Qs rfl rfl rfl (Qc rfl rfl (Qd rfl rfl rfl (by decide) (Qd rfl rfl rfl (by decide) (Qd rfl rfl rfl (by decide) (Qs rfl rfl rfl (Qe rfl rfl (WpL.nil (Qi ?_))))))))))
   apply RetQ.mk
   ·exact (Res.one rfl rfl)
   ·exact ⟨congrArg Value.bool (by exact df (by unfold YF; omega)), rfl⟩
   ·exact Ent.nil _
 ·have hg1 := of_decide_eq_true hg1
  refine Qd rfl rfl rfl (by decide) (Qd rfl rfl rfl (by decide) (Qt rfl rfl rfl (Qc rfl rfl (Qf rfl rfl (Qj (o2 := 1) rfl rfl rfl (Qf rfl rfl (Qo rfl rfl (by rfl) ?_)))))))
  refine Qf rfl rfl (s_ge rfl rfl rfl (Qt rfl rfl rfl (Qc rfl rfl (QK rfl rfl rfl (fun hg4 => ?_) (fun hg4 => ?_)))))
  ·have hg4 := of_decide_eq_true hg4
   refine Qj (o2 := 1) rfl rfl rfl (Qf rfl rfl (Qo rfl rfl (by rfl) ?_))
   refine Qf rfl rfl (s_le rfl rfl rfl (Qt rfl rfl rfl (Qe rfl rfl (WpL.nil (Qi ?_)))))
   apply RetQ.mk
   ·exact (Res.one rfl rfl)
   ·exact ⟨congrArg Value.bool (by exact dd (by unfold YF; omega)), rfl⟩
   ·exact Ent.nil _
  ·have hg4 := of_decide_eq_false hg4
   refine Qd rfl rfl rfl (by decide) (Qd rfl rfl rfl (by decide) (Qs rfl rfl rfl (Qe rfl rfl (WpL.nil (Qi ?_)))))
   apply RetQ.mk
   ·exact (Res.one rfl rfl)
   ·exact ⟨congrArg Value.bool (by exact df (by unfold YF; omega)), rfl⟩
   ·exact Ent.nil _

theorem rFormat1_spec (ch mx : Int) : Fn Tryz.prog 73 #[.agg #[.int .i64 ch, .int .i64 mx]] [] (fun v l => v = .bool (decide (YF ch mx)) ∧ l = []) := by
 refine Qk (vs := [.agg #[.int .i64 ch, .int .i64 mx]]) Tryz.func73 rfl Tryz.ntmps73 rfl (Qb (Qa (Q9 rfl rfl rfl ?_)))
 intro g1
 refine Qe rfl rfl (WpL.nil (Qb (Qa (Qj (o2 := 0) rfl rfl rfl (Qo rfl rfl (by rfl) ?_)))))
 refine QN rfl rfl rfl (Qc rfl rfl (QK rfl rfl rfl (fun hg1 => ?_) (fun hg1 => ?_)))
 ·have hg1 := of_decide_eq_false hg1
  refine Qj (o2 := 0) rfl rfl rfl (Qf rfl rfl (Qo rfl rfl (by rfl) ?_))
  refine Qf rfl rfl (QN rfl rfl rfl (Qs rfl rfl rfl (Qc rfl rfl (QK rfl rfl rfl (fun hg2 => ?_) (fun hg2 => ?_)))))
  ·have hg2 := of_decide_eq_true hg2
   refine Qj (o2 := 1) rfl rfl rfl (Qf rfl rfl (Qo rfl rfl (by rfl) ?_))
   refine Qf rfl rfl (Zm rfl rfl rfl (Qt rfl rfl rfl (Qc rfl rfl (QK rfl rfl rfl (fun hg3 => ?_) (fun hg3 => ?_)))))
   ·have hg3 := of_decide_eq_true hg3
    refine Qj (o2 := 1) rfl rfl rfl (Qf rfl rfl (Qo rfl rfl (by rfl) ?_))
    refine Qf rfl rfl (Q7 rfl rfl rfl (Qt rfl rfl rfl (Qe rfl rfl (WpL.nil (Qi ?_)))))
    apply RetQ.mk
    ·exact (Res.one rfl rfl)
    ·exact ⟨congrArg Value.bool (by exact dd (by unfold YF; omega)), rfl⟩
    ·exact Ent.nil _
   ·have hg3 := of_decide_eq_false hg3
    refine Qd rfl rfl rfl (by decide) (Qd rfl rfl rfl (by decide) (Qs rfl rfl rfl (Qe rfl rfl (WpL.nil (Qi ?_)))))
    apply RetQ.mk
    ·exact (Res.one rfl rfl)
    ·exact ⟨congrArg Value.bool (by exact df (by unfold YF; omega)), rfl⟩
    ·exact Ent.nil _
  ·have hg2 := of_decide_eq_false hg2
   refine Qd rfl rfl rfl (by decide) (Qd rfl rfl rfl (by decide) (Qs rfl rfl rfl (Qc rfl rfl (Qd rfl rfl rfl (by decide) (Qd rfl rfl rfl (by decide) (Qd rfl rfl rfl (by decide) (Qs rfl rfl rfl (Qe rfl rfl (WpL.nil (Qi ?_))))))))))
   apply RetQ.mk
   ·exact (Res.one rfl rfl)
   ·exact ⟨congrArg Value.bool (by exact df (by unfold YF; omega)), rfl⟩
   ·exact Ent.nil _
 ·have hg1 := of_decide_eq_true hg1
  refine Qd rfl rfl rfl (by decide) (Qd rfl rfl rfl (by decide) (Qt rfl rfl rfl (Qc rfl rfl (Qf rfl rfl (Qj (o2 := 1) rfl rfl rfl (Qf rfl rfl (Qo rfl rfl (by rfl) ?_)))))))
  refine Qf rfl rfl (Zm rfl rfl rfl (Qt rfl rfl rfl (Qc rfl rfl (QK rfl rfl rfl (fun hg4 => ?_) (fun hg4 => ?_)))))
  ·have hg4 := of_decide_eq_true hg4
   refine Qj (o2 := 1) rfl rfl rfl (Qf rfl rfl (Qo rfl rfl (by rfl) ?_))
   refine Qf rfl rfl (Q7 rfl rfl rfl (Qt rfl rfl rfl (Qe rfl rfl (WpL.nil (Qi ?_)))))
   apply RetQ.mk
   ·exact (Res.one rfl rfl)
   ·exact ⟨congrArg Value.bool (by exact dd (by unfold YF; omega)), rfl⟩
   ·exact Ent.nil _
  ·have hg4 := of_decide_eq_false hg4
   refine Qd rfl rfl rfl (by decide) (Qd rfl rfl rfl (by decide) (Qs rfl rfl rfl (Qe rfl rfl (WpL.nil (Qi ?_)))))
   apply RetQ.mk
   ·exact (Res.one rfl rfl)
   ·exact ⟨congrArg Value.bool (by exact df (by unfold YF; omega)), rfl⟩
   ·exact Ent.nil _

theorem rin_spec (x : Int) : Fn Tryz.prog 154 #[.int .i64 x] [] (fun v l => v = .bool (decide (Z7 x)) ∧ l = []) := by
 refine Qk (vs := [.int .i64 x]) Tryz.func154 rfl Tryz.ntmps154 rfl (Qb (Qa (Qe rfl rfl (WpL.nil (Qb (Qa (Qc rfl rfl (s_ge rfl rfl rfl (Qc rfl rfl (QK rfl rfl rfl (fun hg1 => ?_) (fun hg1 => ?_)))))))))))
 ·have hg1 := of_decide_eq_true hg1
  refine Qc rfl rfl (Qf rfl rfl (s_le rfl rfl rfl (Qt rfl rfl rfl (Qe rfl rfl (WpL.nil (Qi ?_))))))
  apply RetQ.mk
  ·exact (Res.one rfl rfl)
  ·exact ⟨congrArg Value.bool (by exact dd (by unfold Z7; omega)), rfl⟩
  ·exact Ent.refl _
 ·have hg1 := of_decide_eq_false hg1
  refine Qd rfl rfl rfl (by decide) (Qs rfl rfl rfl (Qe rfl rfl (WpL.nil (Qi ?_))))
  apply RetQ.mk
  ·exact (Res.one rfl rfl)
  ·exact ⟨congrArg Value.bool (by exact df (by unfold Z7; omega)), rfl⟩
  ·exact Ent.refl _

theorem rPack_spec (As : List HP) (a : Option Addr) (c : Nat) (xs : List Int) (hA : RdsL As a (QY xs)) (hm : xs.length ≤ 281474976710656) : Fn Tryz.prog 100 #[.slice a xs.length c] As (fun v l => v = .tuple #[.int .u64 (Xx xs).1, .int .i64 (Xx xs).2] ∧ l = As) := by
 refine Qk (vs := [.slice a xs.length c]) Tryz.func100 rfl Tryz.ntmps100 rfl (Qb (Qa (Qe rfl rfl (Qe rfl rfl (WpL.nil ?_)))))
 refine Wp.cut (xs.length = 1 ∨ xs.length = 3) [2, 3, 6, 7, 8, 9, 10, 11, 12, 13] ?_ (fun hc0 => ?_)
 ·refine Qb (Qa (Qc rfl rfl (QC rfl rfl (Xn rfl rfl rfl (Qc rfl rfl (QK rfl rfl rfl (fun hg1 => ?_) (fun hg1 => ?_)))))))
  ·have hg1 := of_decide_eq_true hg1
   refine Qc rfl rfl (Qf rfl rfl (QC rfl rfl (Qf rfl rfl (Xn rfl rfl rfl (Qt rfl rfl rfl (WpL.nil (Ql rfl (fun h0 => ?_) (fun h0 => ?_))))))))
   ·refine Qb (Qa (Qe rfl rfl (Qe rfl rfl (WpL.nil (Qi ?_)))))
    apply RetQ.mk
    ·exact (QB rfl rfl rfl)
    ·exact ⟨by rw [Xx, if_pos (by omega)], rfl⟩
    ·exact Ent.refl _
   ·refine Wp.skip ?_
    refine ZN ?_ (by ((repeat (first | exact Top.refl | refine Top.push rfl ?_)); done)) (by exact Ent.refl _)
    omega
  ·have hg1 := of_decide_eq_false hg1
   refine Qd rfl rfl rfl (by decide) (Qd rfl rfl rfl (by decide) (Qs rfl rfl rfl (WpL.nil (QZ rfl (Wp.skip ?_)))))
   refine ZN ?_ (by ((repeat (first | exact Top.refl | refine Top.push rfl ?_)); done)) (by exact Ent.refl _)
   omega
 ·refine Qb (Qa (Qe rfl rfl (WpL.nil (Qb (Qb (Qa (Qe rfl rfl (WpL.nil (Wp.block ?_)))))))))
  refine Wp.loopD (σ := Nat) (fun k => k ≤ xs.length ∧ ∀ n ∈ xs.take k, Z7 n) [2, 3, 4, 5, 14, 15, 16, 17, 18, 19, 20, 21, 22, 23, 24, 25, 26, 27, 28, 29, 30, 31, 32] (fun k => [(5, .int .i64 (k : Int)), (4, .int .i64 (Ya (xs.take k) 0))]) (fun _ => _) (fun k => xs.length - k) 0 ?_ (FrLe.cons rfl (FrLe.cons rfl FrLe.nil)) (Ent.refl _) ?_
  ·exact ⟨Nat.zero_le _, by simp⟩
  ·rintro k ⟨hk, hsm⟩
   refine Qb (Qb (Qa (Qc rfl rfl (Qc rfl rfl (QC rfl rfl (Q7 rfl rfl rfl (WpL.nil (Ql rfl (fun h2 => ?_) (fun h2 => ?_)))))))))
   ·have hlt : k < xs.length := by omega
    refine Wp.skip (Qb (Wp.block ?_))
    refine Wp.cut (Z7 xs[k]) [2, 3, 20, 21, 22, 23, 24, 25] ?_ (fun hc3 => ?_)
    ·refine Qb (Qa (Qc rfl rfl (Qc rfl rfl (Q4 k rfl rfl rfl hA (by (repeat (exact Ent.refl _))) rfl (by omega) (by simp only [lens]; omega) ?_))))
     refine Q5 rfl rfl hA (by (repeat (exact Ent.refl _))) (Xi xs hlt) ?_
     refine Qh rfl rfl (by repeat' constructor) (rin_spec _) ?_
     rintro _ _ ⟨rfl, rfl⟩
     simp only [Qr]
     refine XN rfl rfl (WpL.nil (Ql rfl (fun h3 => ?_) (fun h3 => ?_)))
     ·refine Qb (Qa (Qe rfl rfl (Qe rfl rfl (WpL.nil (Qi ?_)))))
      apply RetQ.mk
      ·exact (QB rfl rfl rfl)
      ·exact ⟨by rw [packS_bad xs (by omega) hlt h3], rfl⟩
      ·exact Ent.refl _
     ·refine Wp.skip ?_
      refine ZN ?_ (by ((repeat (first | exact Top.refl | refine Top.push rfl ?_)); done)) (by exact Ent.refl _)
      exact Decidable.not_not.1 h3
    ·have hp := packF_step hlt (by omega) hsm
     have hgood := hc3
     unfold Z7 at hc3
     have hstep : Ya (xs.take k) 0 * 65536 + xs[k] = Ya (xs.take (k + 1)) 0 := by rw [Xd xs hlt, packF_snoc]
     refine Qa (Qc rfl rfl (XK rfl rfl rfl (Qu (by omega) (by omega)) ?_))
     refine Qc rfl rfl (Qc rfl rfl (Q4 k rfl rfl rfl hA (by (repeat (exact Ent.refl _))) rfl (by omega) (by simp only [lens]; omega) ?_))
     refine Q5 rfl rfl hA (by (repeat (exact Ent.refl _))) (Xi xs hlt) ?_
     refine QD rfl rfl rfl (Qu (by omega) (by omega)) ?_
     refine Qe rfl rfl (WpL.nil (Qa (Qc rfl rfl (QD rfl rfl rfl (Qu (by omega) (by omega)) ?_))))
     refine Qe rfl rfl (WpL.nil (Qv (k + 1) ?_ ?_ (by ((repeat (first | exact Top.refl | refine Top.push rfl ?_)); done)) (FrLe.cons rfl (FrLe.cons (by exact congrArg (fun x => some (Value.int .i64 x)) hstep) FrLe.nil)) ?_))
     ·refine ⟨by omega, ?_⟩
      rw [Xd xs hlt]
      intro n hn
      rcases List.mem_append.1 hn with hn | hn
      ·exact hsm n hn
      ·have := List.mem_singleton.1 hn; subst this; exact hgood
     ·omega
     ·exact Ent.refl _
   ·have hke : k = xs.length := by omega
    have hsm' : ∀ n ∈ xs, Z7 n := by rw [hke, List.take_length] at hsm; exact hsm
    have hpa := packF_all (by omega) hsm'
    have hpt : Ya (xs.take k) 0 = Ya xs 0 := by rw [hke, List.take_length]
    refine QM (Qb (Qa (Qc rfl rfl (Qc rfl rfl (QC rfl rfl (XK rfl rfl rfl (Qu (by omega) (by omega)) ?_))))))
    rw [hpt]
    refine QD rfl rfl rfl (Qu (by omega) (by omega)) ?_
    refine Yg rfl Tryz.underlying3 rfl (Z6 (by omega) (by omega)) ?_
    refine Qe rfl rfl (Qe rfl rfl (WpL.nil (Qi ?_)))
    apply RetQ.mk
    ·exact (QB rfl rfl rfl)
    ·exact ⟨by rw [packS_ok xs (by omega) hsm'], rfl⟩
    ·exact Ent.refl _


def maxL : List Int → Int
  | [] => 0
  | x :: xs => xs.foldl max x
theorem maxL_take (xs : List Int) {k : Nat} (h0 : 0 < k) (hk : k < xs.length) : max (maxL (xs.take k)) xs[k] = maxL (xs.take (k + 1)) := by
  rw [Xd xs hk]
  cases xs with
  | nil => simp at hk
  | cons x xs =>
    cases k with
    | zero => omega
    | succ k => simp only [List.length_cons, Nat.add_lt_add_iff_right] at hk; simp only [maxL, List.take_succ_cons, List.cons_append, List.foldl_append, List.foldl_cons, List.foldl_nil, List.getElem_cons_succ]
theorem maxL_le (xs : List Int) (m : Int) (h : xs ≠ []) : maxL xs ≤ m ↔ ∀ n ∈ xs, n ≤ m := by
  cases xs with
  | nil => exact absurd rfl h
  | cons x xs =>
    have key : ∀ (xs : List Int) (x : Int), xs.foldl max x ≤ m ↔ x ≤ m ∧ ∀ n ∈ xs, n ≤ m := by
      intro xs
      induction xs with
      | nil => intro x; simp
      | cons y ys ih => intro x; simp only [List.foldl_cons, ih, List.mem_cons, forall_eq_or_imp]; exact ⟨fun ⟨h1, h2⟩ => ⟨by omega, by omega, h2⟩, fun ⟨h1, h2, h3⟩ => ⟨by omega, h3⟩⟩
    simp [maxL, key]

theorem Max_spec (As : List HP) (a : Option Addr) (c : Nat) (xs : List Int) (hA : RdsL As a (QY xs)) (hm : xs.length ≤ 281474976710656) (hne : 0 < xs.length) : Fn Tryz.prog 174 #[.slice a xs.length c] As (fun v l => v = .int .i64 (maxL xs) ∧ l = As) := by
 have hfirst : xs[0]'hne = maxL (xs.take 1) := by cases xs with | nil => simp at hne | cons x xs => rfl
 refine Qk (vs := [.slice a xs.length c]) Tryz.func174 rfl Tryz.ntmps174 rfl (Qb (Qa (Qe rfl rfl (WpL.nil (Qb (Qb (Qa (Qc rfl rfl (QC rfl rfl (Q7 rfl rfl rfl (WpL.nil (Qz rfl (by omega) ?_))))))))))))
 refine Wp.skip (Qb (Qa (Qc rfl rfl (Q4 0 rfl rfl rfl hA (by (repeat (exact Ent.refl _))) rfl (by omega) (by simp only [QT]; omega) ?_))))
 refine Q5 rfl rfl hA (by (repeat (exact Ent.refl _))) (Xi xs hne) ?_
 refine Qe rfl rfl (WpL.nil (Qb (Qb (Qa (Qe rfl rfl (WpL.nil (Wp.block ?_)))))))
 refine Wp.loopD (σ := Nat) (fun k => 0 < k ∧ k ≤ xs.length) [3, 4, 12, 13, 14, 15, 16, 17, 18, 19, 20, 21, 22, 23] (fun k => [(4, .int .i64 (k : Int)), (3, .int .i64 (maxL (xs.take k)))]) (fun _ => _) (fun k => xs.length - k) 1 ?_ (FrLe.cons rfl (FrLe.cons (by exact congrArg (fun x => some (Value.int .i64 x)) hfirst) FrLe.nil)) (Ent.refl _) ?_
 ·omega
 ·rintro k ⟨hk0, hk⟩
  refine Qb (Qb (Qa (Qc rfl rfl (Qc rfl rfl (QC rfl rfl (Q7 rfl rfl rfl (WpL.nil (Ql rfl (fun h2 => ?_) (fun h2 => ?_)))))))))
  ·have hlt : k < xs.length := by omega
   refine Wp.skip (Qb (Wp.block ?_))
   refine Qa (Qc rfl rfl (Qc rfl rfl (Qc rfl rfl (Q4 k rfl rfl rfl hA (by (repeat (exact Ent.refl _))) rfl (by omega) (by simp only [lens]; omega) ?_))))
   refine Q5 rfl rfl hA (by (repeat (exact Ent.refl _))) (Xi xs hlt) ?_
   refine s_max2 rfl rfl rfl (Qe rfl rfl (WpL.nil (Qa (Qc rfl rfl (QD rfl rfl rfl (Qu (by omega) (by omega)) ?_)))))
   refine Qe rfl rfl (WpL.nil (Qv (k + 1) ?_ ?_ (by ((repeat (first | exact Top.refl | refine Top.push rfl ?_)); done)) (FrLe.cons rfl (FrLe.cons (by exact congrArg (fun x => some (Value.int .i64 x)) (maxL_take xs hk0 hlt)) FrLe.nil)) ?_))
   ·omega
   ·omega
   ·exact Ent.refl _
  ·have hke : k = xs.length := by omega
   refine QM (Qb (Qa (Qc rfl rfl (Qe rfl rfl (WpL.nil (Qi ?_))))))
   apply RetQ.mk
   ·exact (Res.one rfl rfl)
   ·exact ⟨by rw [hke, List.take_length], rfl⟩
   ·exact Ent.refl _

def Yp (p ch mx : Int) : Prop := YF ch mx ∧ ((Qn p).length : Int) = ch ∧ ∀ n ∈ Qn p, n ≤ mx
instance (p ch mx : Int) : Decidable (Yp p ch mx) := by unfold Yp; infer_instance
theorem XD (p : Int) : (Qn p).length ≤ 3 := by unfold Qn; split <;> (try split) <;> simp

theorem Fits_a (p ch mx : Int) (h0 : 0 ≤ p) (h1 : p < 18446744073709551616) (h1' : ¬ YF ch mx) : Fn Tryz.prog 132 #[.int .u64 p, .agg #[.int .i64 ch, .int .i64 mx]] [] (fun v l => v = .bool (decide (Yp p ch mx)) ∧ l = []) := by
 refine Qk (vs := [.int .u64 p, .agg #[.int .i64 ch, .int .i64 mx]]) Tryz.func132 rfl Tryz.ntmps132 rfl (Qb (Qa (Q9 rfl rfl rfl ?_)))
 intro g1
 refine Qe rfl rfl (WpL.nil (Qb (Qa (Qc rfl rfl (Qh rfl rfl (by repeat' constructor) (Yf _ (by omega) (by omega)) ?_)))))
 rintro _ _ ⟨A1, a1, c1, rfl, rfl, hA1, hn1⟩
 simp only [Qr]
 refine Qe rfl rfl (WpL.nil (Qb ?_))
 apply Q0 mixed [⟨8, _, []⟩, ⟨9, _, [0]⟩, ⟨10, _, [1]⟩, ⟨11, _, [2]⟩, ⟨12, _, [3, 2]⟩, ⟨13, _, [2]⟩, ⟨14, _, [5, 2]⟩, ⟨15, _, [4, 6, 2]⟩, ⟨16, _, [2, 7]⟩, ⟨17, _, [8, 2]⟩, ⟨18, _, [9]⟩, ⟨19, _, [10, 9]⟩, ⟨20, _, [9]⟩, ⟨21, _, [12, 9]⟩, ⟨22, _, [11, 13, 9]⟩, ⟨23, _, [9, 14]⟩, ⟨4, _, [15, 11, 0, 1, 2, 3, 4, 5, 6, 7, 8, 9, 10, 12, 13, 14]⟩] rfl
 ·refine AllObs.mk ?_ ?_
  ·refine QI (vs := [_, _]) rfl rfl rfl (by rfl) ?_
   exact Qm rfl
  refine AllObs.mk ?_ ?_
  ·refine Qh rfl rfl (by repeat' constructor) (Zr _ _) ?_
   rintro _ _ ⟨rfl, rfl⟩
   simp only [Qr]
   exact WpL.nil ⟨rfl, rfl, rfl, by exact Ent.refl _⟩
  refine AllObs.mk ?_ ?_
  ·exact Qc rfl rfl (Qm rfl)
  refine AllObs.mk ?_ ?_
  ·refine Qy (dj := 10) rfl (decide_eq_false h1') ?_
   exact Qd rfl rfl rfl (by decide) (Qm rfl)
  refine AllObs.mk ?_ ?_
  ·refine Qy (dj := 10) rfl (decide_eq_false h1') ?_
   exact Qd rfl rfl rfl (by decide) (WpL.nil ⟨rfl, rfl, rfl, by exact Ent.refl _⟩)
  refine AllObs.mk ?_ ?_
  ·refine Qy (dj := 10) rfl (decide_eq_false h1') ?_
   exact Qd rfl rfl rfl (by decide) (Qm rfl)
  refine AllObs.mk ?_ ?_
  ·refine Qy (dj := 10) rfl (decide_eq_false h1') ?_
   exact Qd rfl rfl rfl (by decide) (Qm rfl)
  refine AllObs.mk ?_ ?_
  ·refine Qy (dj := 10) rfl (decide_eq_false h1') ?_
   exact Qd rfl rfl rfl (by decide) (Qm rfl)
  refine AllObs.mk ?_ ?_
  ·refine Qy (dj := 10) rfl (decide_eq_false h1') ?_
   exact Qs rfl rfl rfl (Qm rfl)
  refine AllObs.mk ?_ ?_
  ·exact Qc rfl rfl (Qm rfl)
  refine AllObs.mk ?_ ?_
  ·exact Qd rfl rfl rfl (by decide) (Qm rfl)
  refine AllObs.mk ?_ ?_
  ·exact Qd rfl rfl rfl (by decide) (WpL.nil ⟨rfl, rfl, rfl, by exact Ent.refl _⟩)
  refine AllObs.mk ?_ ?_
  ·exact Qd rfl rfl rfl (by decide) (Qm rfl)
  refine AllObs.mk ?_ ?_
  ·exact Qd rfl rfl rfl (by decide) (Qm rfl)
  refine AllObs.mk ?_ ?_
  ·exact Qd rfl rfl rfl (by decide) (Qm rfl)
  refine AllObs.mk ?_ ?_
  ·exact Qs rfl rfl rfl (Qm rfl)
  refine AllObs.mk ?_ ?_
  ·exact Qe rfl rfl (Qm rfl)
  exact AllObs.nil
 ·refine Qi ?_
  apply RetQ.mk
  ·exact (Res.one rfl rfl)
  ·exact ⟨congrArg Value.bool (by exact df (by unfold Yp; simp [*])), rfl⟩
  ·exact Ent.nil _

theorem Fits_b (p ch mx : Int) (h0 : 0 ≤ p) (h1 : p < 18446744073709551616) (h1' : YF ch mx) (h2 : ¬ ((Qn p).length : Int) = ch) : Fn Tryz.prog 132 #[.int .u64 p, .agg #[.int .i64 ch, .int .i64 mx]] [] (fun v l => v = .bool (decide (Yp p ch mx)) ∧ l = []) := by
 refine Qk (vs := [.int .u64 p, .agg #[.int .i64 ch, .int .i64 mx]]) Tryz.func132 rfl Tryz.ntmps132 rfl (Qb (Qa (Q9 rfl rfl rfl ?_)))
 intro g1
 refine Qe rfl rfl (WpL.nil (Qb (Qa (Qc rfl rfl (Qh rfl rfl (by repeat' constructor) (Yf _ (by omega) (by omega)) ?_)))))
 rintro _ _ ⟨A1, a1, c1, rfl, rfl, hA1, hn1⟩
 simp only [Qr]
 refine Qe rfl rfl (WpL.nil (Qb ?_))
 apply Q0 mixed [⟨8, _, []⟩, ⟨9, _, [0]⟩, ⟨10, _, [1]⟩, ⟨11, _, [2]⟩, ⟨12, _, [3, 2]⟩, ⟨13, _, [2]⟩, ⟨14, _, [5, 2]⟩, ⟨15, _, [4, 6, 2]⟩, ⟨16, _, [2, 7]⟩, ⟨17, _, [8, 2]⟩, ⟨18, _, [9]⟩, ⟨19, _, [10, 9]⟩, ⟨20, _, [9]⟩, ⟨21, _, [12, 9]⟩, ⟨22, _, [11, 13, 9]⟩, ⟨23, _, [9, 14]⟩, ⟨4, _, [15, 11, 0, 1, 2, 3, 4, 5, 6, 7, 8, 9, 10, 12, 13, 14]⟩] rfl
 ·refine AllObs.mk ?_ ?_
  ·refine QI (vs := [_, _]) rfl rfl rfl (by rfl) ?_
   exact Qm rfl
  refine AllObs.mk ?_ ?_
  ·refine Qh rfl rfl (by repeat' constructor) (Zr _ _) ?_
   rintro _ _ ⟨rfl, rfl⟩
   simp only [Qr]
   exact WpL.nil ⟨rfl, rfl, rfl, by exact Ent.refl _⟩
  refine AllObs.mk ?_ ?_
  ·exact Qc rfl rfl (Qm rfl)
  refine AllObs.mk ?_ ?_
  ·refine Qx (dj := 10) rfl (decide_eq_true h1') ?_
   exact Qf rfl rfl (Qc rfl rfl (Qm rfl))
  refine AllObs.mk ?_ ?_
  ·refine Qx (dj := 10) rfl (decide_eq_true h1') ?_
   exact Qf rfl rfl (QC rfl rfl (WpL.nil ⟨rfl, rfl, rfl, by exact Ent.refl _⟩))
  refine AllObs.mk ?_ ?_
  ·refine Qx (dj := 10) rfl (decide_eq_true h1') ?_
   exact Qf rfl rfl (Qj (o2 := 0) rfl rfl rfl (Qm rfl))
  refine AllObs.mk ?_ ?_
  ·refine Qx (dj := 10) rfl (decide_eq_true h1') ?_
   refine Qf rfl rfl (Qo rfl rfl (by rfl) ?_)
   exact Qm rfl
  refine AllObs.mk ?_ ?_
  ·refine Qx (dj := 10) rfl (decide_eq_true h1') ?_
   exact Qf rfl rfl (QN rfl rfl rfl (Qm rfl))
  refine AllObs.mk ?_ ?_
  ·refine Qx (dj := 10) rfl (decide_eq_true h1') ?_
   exact Qt rfl rfl rfl (Qm rfl)
  refine AllObs.mk ?_ ?_
  ·exact Qc rfl rfl (Qm rfl)
  refine AllObs.mk ?_ ?_
  ·refine Qy (dj := 17) rfl (decide_eq_false h2) ?_
   exact Qd rfl rfl rfl (by decide) (Qm rfl)
  refine AllObs.mk ?_ ?_
  ·refine Qy (dj := 17) rfl (decide_eq_false h2) ?_
   exact Qd rfl rfl rfl (by decide) (WpL.nil ⟨rfl, rfl, rfl, by exact Ent.refl _⟩)
  refine AllObs.mk ?_ ?_
  ·refine Qy (dj := 17) rfl (decide_eq_false h2) ?_
   exact Qd rfl rfl rfl (by decide) (Qm rfl)
  refine AllObs.mk ?_ ?_
  ·refine Qy (dj := 17) rfl (decide_eq_false h2) ?_
   exact Qd rfl rfl rfl (by decide) (Qm rfl)
  refine AllObs.mk ?_ ?_
  ·refine Qy (dj := 17) rfl (decide_eq_false h2) ?_
   exact Qd rfl rfl rfl (by decide) (Qm rfl)
  refine AllObs.mk ?_ ?_
  ·refine Qy (dj := 17) rfl (decide_eq_false h2) ?_
   exact Qs rfl rfl rfl (Qm rfl)
  refine AllObs.mk ?_ ?_
  ·exact Qe rfl rfl (Qm rfl)
  exact AllObs.nil
 ·refine Qi ?_
  apply RetQ.mk
  ·exact (Res.one rfl rfl)
  ·exact ⟨congrArg Value.bool (by exact df (by unfold Yp; simp [*])), rfl⟩
  ·exact Ent.nil _

theorem Fits_c (p ch mx : Int) (h0 : 0 ≤ p) (h1 : p < 18446744073709551616) (h1' : YF ch mx) (h2 : ((Qn p).length : Int) = ch) : Fn Tryz.prog 132 #[.int .u64 p, .agg #[.int .i64 ch, .int .i64 mx]] [] (fun v l => v = .bool (decide (Yp p ch mx)) ∧ l = []) := by
 refine Qk (vs := [.int .u64 p, .agg #[.int .i64 ch, .int .i64 mx]]) Tryz.func132 rfl Tryz.ntmps132 rfl (Qb (Qa (Q9 rfl rfl rfl ?_)))
 intro g1
 refine Qe rfl rfl (WpL.nil (Qb (Qa (Qc rfl rfl (Qh rfl rfl (by repeat' constructor) (Yf _ (by omega) (by omega)) ?_)))))
 rintro _ _ ⟨A1, a1, c1, rfl, rfl, hA1, hn1⟩
 simp only [Qr]
 refine Qe rfl rfl (WpL.nil (Qb ?_))
 apply Q0 mixed [⟨8, _, []⟩, ⟨9, _, [0]⟩, ⟨10, _, [1]⟩, ⟨11, _, [2]⟩, ⟨12, _, [3, 2]⟩, ⟨13, _, [2]⟩, ⟨14, _, [5, 2]⟩, ⟨15, _, [4, 6, 2]⟩, ⟨16, _, [2, 7]⟩, ⟨17, _, [8, 2]⟩, ⟨18, _, [9]⟩, ⟨19, _, [10, 9]⟩, ⟨20, _, [9]⟩, ⟨21, _, [12, 9]⟩, ⟨22, _, [11, 13, 9]⟩, ⟨23, _, [9, 14]⟩, ⟨4, _, [15, 11, 0, 1, 2, 3, 4, 5, 6, 7, 8, 9, 10, 12, 13, 14]⟩] rfl
 ·refine AllObs.mk ?_ ?_
  ·refine QI (vs := [_, _]) rfl rfl rfl (by rfl) ?_
   exact Qm rfl
  refine AllObs.mk ?_ ?_
  ·refine Qh rfl rfl (by repeat' constructor) (Zr _ _) ?_
   rintro _ _ ⟨rfl, rfl⟩
   simp only [Qr]
   exact WpL.nil ⟨rfl, rfl, rfl, by exact Ent.refl _⟩
  refine AllObs.mk ?_ ?_
  ·exact Qc rfl rfl (Qm rfl)
  refine AllObs.mk ?_ ?_
  ·refine Qx (dj := 10) rfl (decide_eq_true h1') ?_
   exact Qf rfl rfl (Qc rfl rfl (Qm rfl))
  refine AllObs.mk ?_ ?_
  ·refine Qx (dj := 10) rfl (decide_eq_true h1') ?_
   exact Qf rfl rfl (QC rfl rfl (WpL.nil ⟨rfl, rfl, rfl, by exact Ent.refl _⟩))
  refine AllObs.mk ?_ ?_
  ·refine Qx (dj := 10) rfl (decide_eq_true h1') ?_
   exact Qf rfl rfl (Qj (o2 := 0) rfl rfl rfl (Qm rfl))
  refine AllObs.mk ?_ ?_
  ·refine Qx (dj := 10) rfl (decide_eq_true h1') ?_
   refine Qf rfl rfl (Qo rfl rfl (by rfl) ?_)
   exact Qm rfl
  refine AllObs.mk ?_ ?_
  ·refine Qx (dj := 10) rfl (decide_eq_true h1') ?_
   exact Qf rfl rfl (QN rfl rfl rfl (Qm rfl))
  refine AllObs.mk ?_ ?_
  ·refine Qx (dj := 10) rfl (decide_eq_true h1') ?_
   exact Qt rfl rfl rfl (Qm rfl)
  refine AllObs.mk ?_ ?_
  ·exact Qc rfl rfl (Qm rfl)
  refine AllObs.mk ?_ ?_
  ·refine Qx (dj := 17) rfl (decide_eq_true h2) ?_
   exact Qf rfl rfl (Qc rfl rfl (Qm rfl))
  refine AllObs.mk ?_ ?_
  ·refine Qx (dj := 17) rfl (decide_eq_true h2) ?_
   refine Qf rfl rfl (Qh rfl rfl (by repeat' constructor) (Max_spec [A1] _ _ _ hA1 (by have := XD p; omega) (by unfold YF at h1'; omega)) ?_)
   rintro _ _ ⟨rfl, rfl⟩
   simp only [Qr]
   exact WpL.nil ⟨rfl, rfl, rfl, by exact Ent.refl _⟩
  refine AllObs.mk ?_ ?_
  ·refine Qx (dj := 17) rfl (decide_eq_true h2) ?_
   exact Qf rfl rfl (Qj (o2 := 1) rfl rfl rfl (Qm rfl))
  refine AllObs.mk ?_ ?_
  ·refine Qx (dj := 17) rfl (decide_eq_true h2) ?_
   refine Qf rfl rfl (Qo rfl rfl (by rfl) ?_)
   exact Qm rfl
  refine AllObs.mk ?_ ?_
  ·refine Qx (dj := 17) rfl (decide_eq_true h2) ?_
   exact Qf rfl rfl (s_le rfl rfl rfl (Qm rfl))
  refine AllObs.mk ?_ ?_
  ·refine Qx (dj := 17) rfl (decide_eq_true h2) ?_
   exact Qt rfl rfl rfl (Qm rfl)
  refine AllObs.mk ?_ ?_
  ·exact Qe rfl rfl (Qm rfl)
  exact AllObs.nil
 ·refine Qi ?_
  apply RetQ.mk
  ·exact (Res.one rfl rfl)
  ·exact ⟨congrArg Value.bool (by exact dd (by unfold Yp; rw [maxL_le _ _ (fun e => by rw [e] at h2; unfold YF at h1'; simp at h2; omega)]; simp [h1', h2])), rfl⟩
  ·exact Ent.nil _

theorem Fits_spec (p ch mx : Int) (h0 : 0 ≤ p) (h1 : p < 18446744073709551616) : Fn Tryz.prog 132 #[.int .u64 p, .agg #[.int .i64 ch, .int .i64 mx]] [] (fun v l => v = .bool (decide (Yp p ch mx)) ∧ l = []) := by
  by_cases h2 : YF ch mx
  · by_cases h3 : ((Qn p).length : Int) = ch
    · exact Fits_c p ch mx h0 h1 h2 h3
    · exact Fits_b p ch mx h0 h1 h2 h3
  · exact Fits_a p ch mx h0 h1 h2

end Go.Proofs.YtggamdlpiejbiaaGreat
