/- Walks. -/
import Derived.Test.YtpoahaadnbdgcaaLow
namespace Go.Proofs.Ytpoahaadnbdgcaa
open Go.RowKit Go.Shelf


theorem w_u64q {x : Int} (h1 : 0 ≤ x) (h2 : x < 2 ^ 64) : IntKind.u64.wrap x = x := w_u64 h1 (by omega)
/-- A pixel's samples, joined. -/
def packF : List Int → Int → Int
  | [], p => p
  | n :: l, p => packF l (p * 65536 + n)
def smp (n : Int) : Prop := 0 ≤ n ∧ n ≤ 65535
instance (n : Int) : Decidable (smp n) := by unfold smp; infer_instance
theorem packF_snoc (l : List Int) (n p : Int) : packF (l ++ [n]) p = packF l p * 65536 + n := by
  induction l generalizing p with
  | nil => rfl
  | cons m l ih => exact ih _
theorem packF_bd (l : List Int) (h : ∀ n ∈ l, smp n) : 0 ≤ packF l 0 ∧ packF l 0 < 65536 ^ l.length := by
  suffices ∀ (l : List Int) (p : Int) (k : Nat), (∀ n ∈ l, smp n) → 0 ≤ p → p < 65536 ^ k → 0 ≤ packF l p ∧ packF l p < 65536 ^ (k + l.length) by
    have := this l 0 0 h (by omega) (by simp)
    simpa using this
  intro l
  induction l with
  | nil => intro p k _ h0 h1; exact ⟨h0, by simp [packF]; exact h1⟩
  | cons n l ih =>
    intro p k hs h0 h1
    have hn := hs n (by simp)
    unfold smp at hn
    have := ih (p * 65536 + n) (k + 1) (fun m hm => hs m (by simp [hm])) (by omega) (by rw [Int.pow_succ]; omega)
    simp only [List.length_cons]
    rw [show k + (l.length + 1) = k + 1 + l.length by omega]
    exact this
theorem take_snoc' (l : List Int) {k : Nat} (h : k < l.length) : l.take (k + 1) = l.take k ++ [l[k]] := by
  rw [List.take_succ_eq_append_getElem h]
def packS (l : List Int) : Int × Int := if l.length ≠ 1 ∧ l.length ≠ 3 then (0, 1) else if (l.all fun n => decide (0 ≤ n ∧ n ≤ 65535)) = true then (packF l 0 + l.length * 281474976710656, 0) else (0, 4)
theorem packS_bad (l : List Int) (h : l.length = 1 ∨ l.length = 3) {k : Nat} (hk : k < l.length) (hb : ¬ smp l[k]) : packS l = (0, 4) := by
  unfold packS
  rw [if_neg (by omega), if_neg]
  intro ha
  have := List.all_eq_true.1 ha l[k] (List.getElem_mem hk)
  exact hb (by simpa [smp] using this)
theorem packS_ok (l : List Int) (h : l.length = 1 ∨ l.length = 3) (hs : ∀ n ∈ l, smp n) : packS l = (packF l 0 + l.length * 281474976710656, 0) := by
  unfold packS
  rw [if_neg (by omega), if_pos]
  exact List.all_eq_true.2 fun n hn => by have := hs n hn; unfold smp at this; simp; omega
theorem packF_step {l : List Int} {k : Nat} (hk : k < l.length) (h3 : l.length ≤ 3) (hs : ∀ n ∈ l.take k, smp n) : 0 ≤ packF (l.take k) 0 ∧ packF (l.take k) 0 < 4294967296 := by
  have h := packF_bd _ hs
  refine ⟨h.1, Int.lt_of_lt_of_le h.2 ?_⟩
  have : (l.take k).length ≤ 2 := by rw [List.length_take]; omega
  have e : (l.take k).length = 0 ∨ (l.take k).length = 1 ∨ (l.take k).length = 2 := by omega
  rcases e with e | e | e <;> rw [e] <;> decide
theorem packF_all {l : List Int} (h3 : l.length ≤ 3) (hs : ∀ n ∈ l, smp n) : 0 ≤ packF l 0 ∧ packF l 0 < 281474976710656 := by
  have h := packF_bd _ hs
  refine ⟨h.1, Int.lt_of_lt_of_le h.2 ?_⟩
  have e : l.length = 0 ∨ l.length = 1 ∨ l.length = 2 ∨ l.length = 3 := by omega
  rcases e with e | e | e | e <;> rw [e] <;> decide

theorem Pack_spec (As : List HP) (a : Option Addr) (c : Nat) (xs : List Int) (hA : RdsL As a (ints xs)) (hm : xs.length ≤ 281474976710656) : Fn Try.prog 68 #[.slice a xs.length c] As (fun v l => v = .tuple #[.int .u64 (packS xs).1, .int .i64 (packS xs).2] ∧ l = As) := by
  refine Fn.intro (vs := [.slice a xs.length c]) Try.func68 rfl Try.ntmps68 rfl ?_
  refine Wp.seq ?_
  refine Wp.region ?_
  refine s_as rfl rfl ?_
  refine s_as rfl rfl ?_
  refine WpL.nil ?_
  refine Wp.cut (xs.length = 1 ∨ xs.length = 3) [2, 3, 7, 8, 9, 10, 11, 12, 13, 14] ?_ (fun hc0 => ?_)
  · refine Wp.seq ?_
    refine Wp.region ?_
    refine s_mv rfl rfl ?_
    refine s_lenl rfl rfl ?_
    refine s_ne rfl rfl rfl ?_
    refine s_mv rfl rfl ?_
    refine WpL.grd rfl rfl rfl (fun hg1 => ?_) (fun hg1 => ?_)
    · have hg1 := of_decide_eq_true hg1
      refine s_mv rfl rfl ?_
      refine WpL.gon rfl rfl ?_
      refine s_lenl rfl rfl ?_
      refine WpL.gon rfl rfl ?_
      refine s_ne rfl rfl rfl ?_
      refine s_pickT rfl rfl rfl ?_
      refine WpL.nil ?_
      refine Wp.condD rfl (fun h0 => ?_) (fun h0 => ?_)
      · refine Wp.seq ?_
        refine Wp.region ?_
        refine s_as rfl rfl ?_
        refine s_as rfl rfl ?_
        refine WpL.nil ?_
        refine Wp.ret ?_
        apply RetQ.mk
        · exact (Res.two rfl rfl rfl)
        · exact ⟨by rw [packS, if_pos (by omega)], rfl⟩
        · first | exact Ent.refl _ | exact Ent.nil _ | exact Take.ent' (by repeat' constructor) | (repeat (first | exact Ent.refl _ | refine Ent.drop ?_))
      · refine Wp.skip ?_
        refine cut_end ?_ (by repeat (first | exact Top.refl | refine Top.push rfl ?_ | refine Top.drop rfl ?_)) (by first | exact Ent.refl _ | exact Ent.nil _ | exact Take.ent' (by repeat' constructor) | (repeat (first | exact Ent.refl _ | refine Ent.drop ?_)))
        omega
    · have hg1 := of_decide_eq_false hg1
      refine WpL.goff rfl rfl rfl (by decide) ?_
      refine WpL.goff rfl rfl rfl (by decide) ?_
      refine s_pickF rfl rfl rfl ?_
      refine WpL.nil ?_
      refine Wp.condF rfl ?_
      refine Wp.skip ?_
      refine cut_end ?_ (by repeat (first | exact Top.refl | refine Top.push rfl ?_ | refine Top.drop rfl ?_)) (by first | exact Ent.refl _ | exact Ent.nil _ | exact Take.ent' (by repeat' constructor) | (repeat (first | exact Ent.refl _ | refine Ent.drop ?_)))
      omega
  · refine Wp.seq ?_
    refine Wp.region ?_
    refine s_as rfl rfl ?_
    refine WpL.nil ?_
    refine Wp.seq ?_
    refine Wp.seq ?_
    refine Wp.region ?_
    refine s_mv rfl rfl ?_
    refine s_lenl rfl rfl ?_
    refine s_mv rfl rfl ?_
    refine WpL.nil ?_
    refine Wp.block ?_
    refine Wp.loopD (σ := Nat) (fun k => k ≤ xs.length ∧ ∀ n ∈ xs.take k, smp n) [2, 3, 4, 6, 17, 18, 19, 20, 21, 22, 23, 24, 25, 26, 27, 28, 29, 30, 31, 32] (fun k => [(17, .int .i64 (k : Int)), (4, .int .u64 (packF (xs.take k) 0))]) (fun _ => _) (fun k => xs.length - k) 0 ?_ (FrLe.cons rfl (FrLe.cons rfl FrLe.nil)) (Ent.refl _) ?_
    · exact ⟨Nat.zero_le _, by simp⟩
    · rintro k ⟨hk, hsm⟩
      refine Wp.seq ?_
      refine Wp.region ?_
      refine s_lt rfl rfl rfl ?_
      refine WpL.nil ?_
      refine Wp.seq ?_
      refine Wp.condD rfl (fun h2 => ?_) (fun h2 => ?_)
      · have hlt : k < xs.length := by omega
        refine Wp.skip ?_
        refine Wp.seq ?_
        refine Wp.block ?_
        refine Wp.seq ?_
        refine Wp.region ?_
        refine s_ixa k rfl rfl rfl hA (by first | exact Take.ent' (by repeat' constructor) | (repeat (first | exact Ent.refl _ | refine Ent.drop ?_))) rfl (by omega) (by simp only [lens]; omega) ?_
        refine s_ldx rfl rfl hA (by first | exact Take.ent' (by repeat' constructor) | (repeat (first | exact Ent.refl _ | refine Ent.drop ?_))) (ints_at xs hlt) ?_
        refine s_as rfl rfl ?_
        refine WpL.nil ?_
        refine Wp.cut (smp xs[k]) [2, 3, 21, 22, 23, 24, 25, 26] ?_ (fun hc3 => ?_)
        · refine Wp.seq ?_
          refine Wp.region ?_
          refine s_mv rfl rfl ?_
          refine s_lt rfl rfl rfl ?_
          refine s_mv rfl rfl ?_
          refine WpL.grd rfl rfl rfl (fun hg2 => ?_) (fun hg2 => ?_)
          · have hg2 := of_decide_eq_false hg2
            refine s_mv rfl rfl ?_
            refine WpL.gon rfl rfl ?_
            refine s_gt rfl rfl rfl ?_
            refine s_pickF rfl rfl rfl ?_
            refine WpL.nil ?_
            refine Wp.condD rfl (fun h3 => ?_) (fun h3 => ?_)
            · refine Wp.seq ?_
              refine Wp.region ?_
              refine s_as rfl rfl ?_
              refine s_as rfl rfl ?_
              refine WpL.nil ?_
              refine Wp.ret ?_
              apply RetQ.mk
              · exact (Res.two rfl rfl rfl)
              · exact ⟨by rw [packS_bad xs (by omega) hlt (by unfold smp; omega)], rfl⟩
              · first | exact Ent.refl _ | exact Ent.nil _ | exact Take.ent' (by repeat' constructor) | (repeat (first | exact Ent.refl _ | refine Ent.drop ?_))
            · refine Wp.skip ?_
              refine cut_end ?_ (by repeat (first | exact Top.refl | refine Top.push rfl ?_ | refine Top.drop rfl ?_)) (by first | exact Ent.refl _ | exact Ent.nil _ | exact Take.ent' (by repeat' constructor) | (repeat (first | exact Ent.refl _ | refine Ent.drop ?_)))
              unfold smp; omega
          · have hg2 := of_decide_eq_true hg2
            refine WpL.goff rfl rfl rfl (by decide) ?_
            refine s_pickT rfl rfl rfl ?_
            refine WpL.nil ?_
            refine Wp.condT rfl ?_
            refine Wp.seq ?_
            refine Wp.region ?_
            refine s_as rfl rfl ?_
            refine s_as rfl rfl ?_
            refine WpL.nil ?_
            refine Wp.ret ?_
            apply RetQ.mk
            · exact (Res.two rfl rfl rfl)
            · exact ⟨by rw [packS_bad xs (by omega) hlt (by unfold smp; omega)], rfl⟩
            · first | exact Ent.refl _ | exact Ent.nil _ | exact Take.ent' (by repeat' constructor) | (repeat (first | exact Ent.refl _ | refine Ent.drop ?_))
        · have hp := packF_step hlt (by omega) hsm
          have hgood := hc3
          unfold smp at hc3
          have hstep : packF (xs.take k) 0 * 65536 + xs[k] = packF (xs.take (k + 1)) 0 := by rw [take_snoc' xs hlt, packF_snoc]
          refine Wp.region ?_
          refine s_mv rfl rfl ?_
          refine s_shl 65536 rfl rfl rfl (by decide) (w_u64 (by omega) (by omega)) ?_
          refine s_mv rfl rfl ?_
          first | refine s_cvi rfl Try.underlying3 rfl (w_u64 (by omega) (by omega)) ?_ | refine s_cviw rfl Try.underlying3 rfl ?_
          refine s_or (packF (xs.take k) 0) 16 rfl rfl rfl (by simp) hp.1 (by simp only [IntKind.bits]; omega) hc3.1 (by omega) (by decide) (w_u64 (by omega) (by omega)) ?_
          refine s_as rfl rfl ?_
          refine WpL.nil ?_
          refine Wp.region ?_
          first | refine s_add rfl rfl rfl (w_i64 (by omega) (by omega)) ?_ | refine s_addw rfl rfl rfl ?_
          refine s_mv rfl rfl ?_
          refine WpL.nil ?_
          refine loopD.next (k + 1) ?_ ?_ (by repeat (first | exact Top.refl | refine Top.push rfl ?_ | refine Top.drop rfl ?_)) (FrLe.cons rfl (FrLe.cons (congrArg (fun x => some (Value.int .u64 x)) hstep) FrLe.nil)) ?_
          · refine ⟨by omega, ?_⟩
            rw [take_snoc' xs hlt]
            intro n hn
            rcases List.mem_append.1 hn with hn | hn
            · exact hsm n hn
            · have := List.mem_singleton.1 hn; subst this; exact hgood
          · omega
          · first | exact Ent.refl _ | exact Ent.nil _ | exact Take.ent' (by repeat' constructor) | (repeat (first | exact Ent.refl _ | refine Ent.drop ?_))
      · have hke : k = xs.length := by omega
        have hsm' : ∀ n ∈ xs, smp n := by rw [hke, List.take_length] at hsm; exact hsm
        have hpa := packF_all (by omega) hsm'
        have hpt : packF (xs.take k) 0 = packF xs 0 := by rw [hke, List.take_length]
        refine Wp.exit ?_
        refine Wp.seq ?_
        refine Wp.region ?_
        refine s_mv rfl rfl ?_
        refine s_mv rfl rfl ?_
        refine s_lenl rfl rfl ?_
        first | refine s_cvi rfl Try.underlying3 rfl (w_u64 (by omega) (by omega)) ?_ | refine s_cviw rfl Try.underlying3 rfl ?_
        refine s_shl 281474976710656 rfl rfl rfl (by decide) (w_u64 (by omega) (by omega)) ?_
        rw [hpt]
        refine s_orw xs.length 48 rfl rfl rfl (by simp) (by omega) (by simp only [IntKind.bits]; omega) hpa.1 (by omega) (by decide) (w_u64 (by omega) (by omega)) ?_
        refine s_as rfl rfl ?_
        refine s_as rfl rfl ?_
        refine WpL.nil ?_
        refine Wp.ret ?_
        apply RetQ.mk
        · exact (Res.two rfl rfl rfl)
        · exact ⟨by rw [packS_ok xs (by omega) hsm', Int.add_comm], rfl⟩
        · first | exact Ent.refl _ | exact Ent.nil _ | exact Take.ent' (by repeat' constructor) | (repeat (first | exact Ent.refl _ | refine Ent.drop ?_))


def unpackS (p : Int) : List Int := if p / 281474976710656 = 3 then [p / 4294967296 % 65536, p / 65536 % 65536, p % 65536] else if p / 281474976710656 = 1 ∧ p / 4294967296 % 65536 = 0 ∧ p / 65536 % 65536 = 0 then [p % 65536] else []
/-- A slice handed back that may be read. -/
def SlI (v : Value) (l : List HP) (xs : List Int) : Prop := ∃ A a c, l = [A] ∧ v = .slice a xs.length c ∧ RdsL [A] a (ints xs) ∧ (xs = [] → a = none)
theorem SlI.nil {xs : List Int} (h : xs = []) : SlI (.slice none 0 0) [emp] xs := ⟨emp, none, 0, rfl, by simp [h], by rw [h]; exact RdsL.nil, fun _ => rfl⟩
theorem SlI.blk {g o T c m : Nat} {cs : List Value} {xs : List Int} (h : (cs.drop o).take xs.length = ints xs) (hm : xs.length = m) (hn : 0 < m) : SlI (.slice (some ⟨g, o, none⟩) m c) [Go.Proofs.Ytpoahaadnbdgcaa.blk g cs T] xs := by
  subst hm
  exact ⟨_, _, c, rfl, rfl, RdsL.blk (by rw [ints_len]; exact h), fun e => by rw [e] at hn; cases hn⟩

theorem Unpack_spec (p : Int) (h0 : 0 ≤ p) (h1 : p < 18446744073709551616) : Fn Try.prog 21 #[.int .u64 p] [] (fun v l => SlI v l (unpackS p)) := by
  refine Fn.intro (vs := [.int .u64 p]) Try.func21 rfl Try.ntmps21 rfl ?_
  refine Wp.seq ?_
  refine Wp.region ?_
  refine s_as rfl rfl ?_
  refine WpL.nil ?_
  refine Wp.seq ?_
  refine Wp.region ?_
  refine s_mv rfl rfl ?_
  refine s_shr 4294967296 rfl rfl rfl (by decide) (by decide) ?_
  refine s_and 65536 16 rfl rfl rfl (by decide) (by omega) (by simp only [IntKind.bits]; omega) (w_u64 (by omega) (by omega)) ?_
  first | refine s_cvi rfl Try.underlying46 rfl (w_i64 (by omega) (by omega)) ?_ | refine s_cviw rfl Try.underlying46 rfl ?_
  refine s_mv rfl rfl ?_
  refine s_shr 65536 rfl rfl rfl (by decide) (by decide) ?_
  refine s_and 65536 16 rfl rfl rfl (by decide) (by omega) (by simp only [IntKind.bits]; omega) (w_u64 (by omega) (by omega)) ?_
  first | refine s_cvi rfl Try.underlying46 rfl (w_i64 (by omega) (by omega)) ?_ | refine s_cviw rfl Try.underlying46 rfl ?_
  refine s_mv rfl rfl ?_
  refine s_and 65536 16 rfl rfl rfl (by decide) (by omega) (by simp only [IntKind.bits]; omega) (w_u64 (by omega) (by omega)) ?_
  first | refine s_cvi rfl Try.underlying46 rfl (w_i64 (by omega) (by omega)) ?_ | refine s_cviw rfl Try.underlying46 rfl ?_
  refine s_bd rfl rfl ?_
  refine s_al rfl ?_
  intro g1
  refine s_sta rfl rfl rfl (by rfl) rfl ?_
  refine WpL.nil ?_
  refine Wp.seq ?_
  refine Wp.block ?_
  refine Wp.seq ?_
  refine Wp.region ?_
  refine s_mv rfl rfl ?_
  refine s_shr 281474976710656 rfl rfl rfl (by decide) (by decide) ?_
  refine s_eq rfl rfl rfl ?_
  refine s_as rfl rfl ?_
  refine WpL.nil ?_
  refine Wp.condD rfl (fun h0 => ?_) (fun h0 => ?_)
  · refine Wp.seq ?_
    refine Wp.region ?_
    refine s_slar rfl rfl rfl ?_
    refine s_as rfl rfl ?_
    refine WpL.nil ?_
    refine Wp.ret ?_
    apply RetQ.mk
    · exact (Res.one rfl rfl)
    · have e : unpackS p = [p / 4294967296 % 65536, p / 65536 % 65536, p % 65536] := by rw [unpackS, if_pos (by omega)]
      rw [e]
      exact SlI.blk (T := 89) (o := 0) (cs := [.int .i64 (p / 4294967296 % 65536), .int .i64 (p / 65536 % 65536), .int .i64 (p % 65536)]) rfl rfl (by decide)
    · first | exact Ent.refl _ | exact Ent.emp (Ent.nil _) | exact Take.ent' (by repeat' constructor)
  · refine Wp.seq ?_
    refine Wp.region ?_
    refine s_mv rfl rfl ?_
    refine s_shr 281474976710656 rfl rfl rfl (by decide) (by decide) ?_
    refine s_eq rfl rfl rfl ?_
    refine s_mv rfl rfl ?_
    refine WpL.grd rfl rfl rfl (fun hg1 => ?_) (fun hg1 => ?_)
    · have hg1 := of_decide_eq_true hg1
      refine s_ixar (i := 0) (o2 := 0) rfl rfl rfl rfl rfl ?_
      refine WpL.gon rfl rfl ?_
      refine s_ld rfl rfl (by rfl) ?_
      refine WpL.gon rfl rfl ?_
      refine s_eq rfl rfl rfl ?_
      refine s_pickT rfl rfl rfl ?_
      refine s_mv rfl rfl ?_
      refine WpL.grd rfl rfl rfl (fun hg2 => ?_) (fun hg2 => ?_)
      · have hg2 := of_decide_eq_true hg2
        refine s_ixar (i := 1) (o2 := 1) rfl rfl rfl rfl rfl ?_
        refine WpL.gon rfl rfl ?_
        refine s_ld rfl rfl (by rfl) ?_
        refine WpL.gon rfl rfl ?_
        refine s_eq rfl rfl rfl ?_
        refine s_pickT rfl rfl rfl ?_
        refine s_as rfl rfl ?_
        refine WpL.nil ?_
        refine Wp.condD rfl (fun h1 => ?_) (fun h1 => ?_)
        · refine Wp.seq ?_
          refine Wp.region ?_
          refine s_slar2 (i := 2) (o2 := 2) rfl rfl rfl rfl rfl ?_
          refine s_as rfl rfl ?_
          refine WpL.nil ?_
          refine Wp.ret ?_
          apply RetQ.mk
          · exact (Res.one rfl rfl)
          · have e : unpackS p = [p % 65536] := by rw [unpackS, if_neg (by omega), if_pos (by omega)]
            rw [e]
            exact SlI.blk (T := 89) (o := 2) (cs := [.int .i64 (p / 4294967296 % 65536), .int .i64 (p / 65536 % 65536), .int .i64 (p % 65536)]) rfl rfl (by decide)
          · first | exact Ent.refl _ | exact Ent.emp (Ent.nil _) | exact Take.ent' (by repeat' constructor)
        · refine Wp.skip ?_
          refine Wp.seq ?_
          refine Wp.region ?_
          refine s_as rfl rfl ?_
          refine WpL.nil ?_
          refine Wp.ret ?_
          apply RetQ.mk
          · exact (Res.one rfl rfl)
          · exact SlI.nil (by rw [unpackS, if_neg (by omega), if_neg (by omega)])
          · first | exact Ent.refl _ | exact Ent.emp (Ent.nil _) | exact Take.ent' (by repeat' constructor)
      · have hg2 := of_decide_eq_false hg2
        refine WpL.goff rfl rfl rfl (by decide) ?_
        refine WpL.goff rfl rfl rfl (by decide) ?_
        refine s_pickF rfl rfl rfl ?_
        refine s_as rfl rfl ?_
        refine WpL.nil ?_
        refine Wp.condF rfl ?_
        refine Wp.skip ?_
        refine Wp.seq ?_
        refine Wp.region ?_
        refine s_as rfl rfl ?_
        refine WpL.nil ?_
        refine Wp.ret ?_
        apply RetQ.mk
        · exact (Res.one rfl rfl)
        · exact SlI.nil (by rw [unpackS, if_neg (by omega), if_neg (by omega)])
        · first | exact Ent.refl _ | exact Ent.emp (Ent.nil _) | exact Take.ent' (by repeat' constructor)
    · have hg1 := of_decide_eq_false hg1
      refine WpL.goff rfl rfl rfl (by decide) ?_
      refine WpL.goff rfl rfl rfl (by decide) ?_
      refine s_pickF rfl rfl rfl ?_
      refine s_mv rfl rfl ?_
      refine WpL.goff rfl rfl rfl (by decide) ?_
      refine WpL.goff rfl rfl rfl (by decide) ?_
      refine WpL.goff rfl rfl rfl (by decide) ?_
      refine s_pickF rfl rfl rfl ?_
      refine s_as rfl rfl ?_
      refine WpL.nil ?_
      refine Wp.condF rfl ?_
      refine Wp.skip ?_
      refine Wp.seq ?_
      refine Wp.region ?_
      refine s_as rfl rfl ?_
      refine WpL.nil ?_
      refine Wp.ret ?_
      apply RetQ.mk
      · exact (Res.one rfl rfl)
      · exact SlI.nil (by rw [unpackS, if_neg (by omega), if_neg (by omega)])
      · first | exact Ent.refl _ | exact Ent.emp (Ent.nil _) | exact Take.ent' (by repeat' constructor)


def FmtP (ch mx : Int) : Prop := (ch = 1 ∨ ch = 3) ∧ 1 ≤ mx ∧ mx ≤ 65535
instance (ch mx : Int) : Decidable (FmtP ch mx) := by unfold FmtP; infer_instance

theorem Format1_spec (ch mx : Int) : Fn Try.prog 39 #[.agg #[.int .i64 ch, .int .i64 mx]] [] (fun v l => v = .bool (decide (FmtP ch mx)) ∧ l = []) := by
  refine Fn.intro (vs := [.agg #[.int .i64 ch, .int .i64 mx]]) Try.func39 rfl Try.ntmps39 rfl ?_
  refine Wp.seq ?_
  refine Wp.region ?_
  refine s_box rfl rfl rfl ?_
  intro g1
  refine s_as rfl rfl ?_
  refine WpL.nil ?_
  refine Wp.seq ?_
  refine Wp.region ?_
  refine s_fa (o2 := 0) rfl rfl rfl ?_
  refine s_ld rfl rfl (by rfl) ?_
  refine s_eq rfl rfl rfl ?_
  refine s_mv rfl rfl ?_
  refine WpL.grd rfl rfl rfl (fun hg1 => ?_) (fun hg1 => ?_)
  · have hg1 := of_decide_eq_false hg1
    refine s_fa (o2 := 0) rfl rfl rfl ?_
    refine WpL.gon rfl rfl ?_
    refine s_ld rfl rfl (by rfl) ?_
    refine WpL.gon rfl rfl ?_
    refine s_eq rfl rfl rfl ?_
    refine s_pickF rfl rfl rfl ?_
    refine s_mv rfl rfl ?_
    refine WpL.grd rfl rfl rfl (fun hg2 => ?_) (fun hg2 => ?_)
    · have hg2 := of_decide_eq_true hg2
      refine s_fa (o2 := 1) rfl rfl rfl ?_
      refine WpL.gon rfl rfl ?_
      refine s_ld rfl rfl (by rfl) ?_
      refine WpL.gon rfl rfl ?_
      refine s_ge rfl rfl rfl ?_
      refine s_pickT rfl rfl rfl ?_
      refine s_mv rfl rfl ?_
      refine WpL.grd rfl rfl rfl (fun hg3 => ?_) (fun hg3 => ?_)
      · have hg3 := of_decide_eq_true hg3
        refine s_fa (o2 := 1) rfl rfl rfl ?_
        refine WpL.gon rfl rfl ?_
        refine s_ld rfl rfl (by rfl) ?_
        refine WpL.gon rfl rfl ?_
        refine s_le rfl rfl rfl ?_
        refine s_pickT rfl rfl rfl ?_
        refine s_as rfl rfl ?_
        refine WpL.nil ?_
        refine Wp.ret ?_
        apply RetQ.mk
        · exact (Res.one rfl rfl)
        · exact ⟨congrArg Value.bool (by first | exact dd (by unfold FmtP; first | rfl | omega) | exact dt (by unfold FmtP; omega) | exact df (by unfold FmtP; omega)), rfl⟩
        · first | exact Ent.refl _ | exact Ent.nil _ | exact Take.ent' (by repeat' constructor) | (repeat (first | exact Ent.refl _ | refine Ent.drop ?_))
      · have hg3 := of_decide_eq_false hg3
        refine WpL.goff rfl rfl rfl (by decide) ?_
        refine WpL.goff rfl rfl rfl (by decide) ?_
        refine s_pickF rfl rfl rfl ?_
        refine s_as rfl rfl ?_
        refine WpL.nil ?_
        refine Wp.ret ?_
        apply RetQ.mk
        · exact (Res.one rfl rfl)
        · exact ⟨congrArg Value.bool (by first | exact dd (by unfold FmtP; first | rfl | omega) | exact dt (by unfold FmtP; omega) | exact df (by unfold FmtP; omega)), rfl⟩
        · first | exact Ent.refl _ | exact Ent.nil _ | exact Take.ent' (by repeat' constructor) | (repeat (first | exact Ent.refl _ | refine Ent.drop ?_))
    · have hg2 := of_decide_eq_false hg2
      refine WpL.goff rfl rfl rfl (by decide) ?_
      refine WpL.goff rfl rfl rfl (by decide) ?_
      refine s_pickF rfl rfl rfl ?_
      refine s_mv rfl rfl ?_
      refine WpL.goff rfl rfl rfl (by decide) ?_
      refine WpL.goff rfl rfl rfl (by decide) ?_
      refine WpL.goff rfl rfl rfl (by decide) ?_
      refine s_pickF rfl rfl rfl ?_
      refine s_as rfl rfl ?_
      refine WpL.nil ?_
      refine Wp.ret ?_
      apply RetQ.mk
      · exact (Res.one rfl rfl)
      · exact ⟨congrArg Value.bool (by first | exact dd (by unfold FmtP; first | rfl | omega) | exact dt (by unfold FmtP; omega) | exact df (by unfold FmtP; omega)), rfl⟩
      · first | exact Ent.refl _ | exact Ent.nil _ | exact Take.ent' (by repeat' constructor) | (repeat (first | exact Ent.refl _ | refine Ent.drop ?_))
  · have hg1 := of_decide_eq_true hg1
    refine WpL.goff rfl rfl rfl (by decide) ?_
    refine WpL.goff rfl rfl rfl (by decide) ?_
    refine s_pickT rfl rfl rfl ?_
    refine s_mv rfl rfl ?_
    refine WpL.gon rfl rfl ?_
    refine s_fa (o2 := 1) rfl rfl rfl ?_
    refine WpL.gon rfl rfl ?_
    refine s_ld rfl rfl (by rfl) ?_
    refine WpL.gon rfl rfl ?_
    refine s_ge rfl rfl rfl ?_
    refine s_pickT rfl rfl rfl ?_
    refine s_mv rfl rfl ?_
    refine WpL.grd rfl rfl rfl (fun hg4 => ?_) (fun hg4 => ?_)
    · have hg4 := of_decide_eq_true hg4
      refine s_fa (o2 := 1) rfl rfl rfl ?_
      refine WpL.gon rfl rfl ?_
      refine s_ld rfl rfl (by rfl) ?_
      refine WpL.gon rfl rfl ?_
      refine s_le rfl rfl rfl ?_
      refine s_pickT rfl rfl rfl ?_
      refine s_as rfl rfl ?_
      refine WpL.nil ?_
      refine Wp.ret ?_
      apply RetQ.mk
      · exact (Res.one rfl rfl)
      · exact ⟨congrArg Value.bool (by first | exact dd (by unfold FmtP; first | rfl | omega) | exact dt (by unfold FmtP; omega) | exact df (by unfold FmtP; omega)), rfl⟩
      · first | exact Ent.refl _ | exact Ent.nil _ | exact Take.ent' (by repeat' constructor) | (repeat (first | exact Ent.refl _ | refine Ent.drop ?_))
    · have hg4 := of_decide_eq_false hg4
      refine WpL.goff rfl rfl rfl (by decide) ?_
      refine WpL.goff rfl rfl rfl (by decide) ?_
      refine s_pickF rfl rfl rfl ?_
      refine s_as rfl rfl ?_
      refine WpL.nil ?_
      refine Wp.ret ?_
      apply RetQ.mk
      · exact (Res.one rfl rfl)
      · exact ⟨congrArg Value.bool (by first | exact dd (by unfold FmtP; first | rfl | omega) | exact dt (by unfold FmtP; omega) | exact df (by unfold FmtP; omega)), rfl⟩
      · first | exact Ent.refl _ | exact Ent.nil _ | exact Take.ent' (by repeat' constructor) | (repeat (first | exact Ent.refl _ | refine Ent.drop ?_))


theorem rin_spec (x : Int) : Fn Try.prog 57 #[.int .i64 x] [] (fun v l => v = .bool (decide (smp x)) ∧ l = []) := by
  refine Fn.intro (vs := [.int .i64 x]) Try.func57 rfl Try.ntmps57 rfl ?_
  refine Wp.seq ?_
  refine Wp.region ?_
  refine s_as rfl rfl ?_
  refine WpL.nil ?_
  refine Wp.seq ?_
  refine Wp.region ?_
  refine s_mv rfl rfl ?_
  refine s_ge rfl rfl rfl ?_
  refine s_mv rfl rfl ?_
  refine WpL.grd rfl rfl rfl (fun hg1 => ?_) (fun hg1 => ?_)
  · have hg1 := of_decide_eq_true hg1
    refine s_mv rfl rfl ?_
    refine WpL.gon rfl rfl ?_
    refine s_le rfl rfl rfl ?_
    refine s_pickT rfl rfl rfl ?_
    refine s_as rfl rfl ?_
    refine WpL.nil ?_
    refine Wp.ret ?_
    apply RetQ.mk
    · exact (Res.one rfl rfl)
    · exact ⟨congrArg Value.bool (by first | exact dd (by unfold smp; first | rfl | omega) | exact dt (by unfold smp; omega) | exact df (by unfold smp; omega)), rfl⟩
    · first | exact Ent.refl _ | exact Ent.nil _ | exact Take.ent' (by repeat' constructor) | (repeat (first | exact Ent.refl _ | refine Ent.drop ?_))
  · have hg1 := of_decide_eq_false hg1
    refine WpL.goff rfl rfl rfl (by decide) ?_
    refine s_pickF rfl rfl rfl ?_
    refine s_as rfl rfl ?_
    refine WpL.nil ?_
    refine Wp.ret ?_
    apply RetQ.mk
    · exact (Res.one rfl rfl)
    · exact ⟨congrArg Value.bool (by first | exact dd (by unfold smp; first | rfl | omega) | exact dt (by unfold smp; omega) | exact df (by unfold smp; omega)), rfl⟩
    · first | exact Ent.refl _ | exact Ent.nil _ | exact Take.ent' (by repeat' constructor) | (repeat (first | exact Ent.refl _ | refine Ent.drop ?_))

theorem rPack_spec (As : List HP) (a : Option Addr) (c : Nat) (xs : List Int) (hA : RdsL As a (ints xs)) (hm : xs.length ≤ 281474976710656) : Fn Try.prog 38 #[.slice a xs.length c] As (fun v l => v = .tuple #[.int .u64 (packS xs).1, .int .i64 (packS xs).2] ∧ l = As) := by
  refine Fn.intro (vs := [.slice a xs.length c]) Try.func38 rfl Try.ntmps38 rfl ?_
  refine Wp.seq ?_
  refine Wp.region ?_
  refine s_as rfl rfl ?_
  refine s_as rfl rfl ?_
  refine WpL.nil ?_
  refine Wp.cut (xs.length = 1 ∨ xs.length = 3) [2, 3, 6, 7, 8, 9, 10, 11, 12, 13] ?_ (fun hc0 => ?_)
  · refine Wp.seq ?_
    refine Wp.region ?_
    refine s_mv rfl rfl ?_
    refine s_lenl rfl rfl ?_
    refine s_ne rfl rfl rfl ?_
    refine s_mv rfl rfl ?_
    refine WpL.grd rfl rfl rfl (fun hg1 => ?_) (fun hg1 => ?_)
    · have hg1 := of_decide_eq_true hg1
      refine s_mv rfl rfl ?_
      refine WpL.gon rfl rfl ?_
      refine s_lenl rfl rfl ?_
      refine WpL.gon rfl rfl ?_
      refine s_ne rfl rfl rfl ?_
      refine s_pickT rfl rfl rfl ?_
      refine WpL.nil ?_
      refine Wp.condD rfl (fun h0 => ?_) (fun h0 => ?_)
      · refine Wp.seq ?_
        refine Wp.region ?_
        refine s_as rfl rfl ?_
        refine s_as rfl rfl ?_
        refine WpL.nil ?_
        refine Wp.ret ?_
        apply RetQ.mk
        · exact (Res.two rfl rfl rfl)
        · exact ⟨by rw [packS, if_pos (by omega)], rfl⟩
        · first | exact Ent.refl _ | exact Ent.nil _ | exact Take.ent' (by repeat' constructor) | (repeat (first | exact Ent.refl _ | refine Ent.drop ?_))
      · refine Wp.skip ?_
        refine cut_end ?_ (by repeat (first | exact Top.refl | refine Top.push rfl ?_ | refine Top.drop rfl ?_)) (by first | exact Ent.refl _ | exact Ent.nil _ | exact Take.ent' (by repeat' constructor) | (repeat (first | exact Ent.refl _ | refine Ent.drop ?_)))
        omega
    · have hg1 := of_decide_eq_false hg1
      refine WpL.goff rfl rfl rfl (by decide) ?_
      refine WpL.goff rfl rfl rfl (by decide) ?_
      refine s_pickF rfl rfl rfl ?_
      refine WpL.nil ?_
      refine Wp.condF rfl ?_
      refine Wp.skip ?_
      refine cut_end ?_ (by repeat (first | exact Top.refl | refine Top.push rfl ?_ | refine Top.drop rfl ?_)) (by first | exact Ent.refl _ | exact Ent.nil _ | exact Take.ent' (by repeat' constructor) | (repeat (first | exact Ent.refl _ | refine Ent.drop ?_)))
      omega
  · refine Wp.seq ?_
    refine Wp.region ?_
    refine s_as rfl rfl ?_
    refine WpL.nil ?_
    refine Wp.seq ?_
    refine Wp.seq ?_
    refine Wp.region ?_
    refine s_as rfl rfl ?_
    refine WpL.nil ?_
    refine Wp.block ?_
    refine Wp.loopD (σ := Nat) (fun k => k ≤ xs.length ∧ ∀ n ∈ xs.take k, smp n) [2, 3, 4, 5, 14, 15, 16, 17, 18, 19, 20, 21, 22, 23, 24, 25, 26, 27, 28, 29, 30, 31, 32] (fun k => [(5, .int .i64 (k : Int)), (4, .int .i64 (packF (xs.take k) 0))]) (fun _ => _) (fun k => xs.length - k) 0 ?_ (FrLe.cons rfl (FrLe.cons rfl FrLe.nil)) (Ent.refl _) ?_
    · exact ⟨Nat.zero_le _, by simp⟩
    · rintro k ⟨hk, hsm⟩
      refine Wp.seq ?_
      refine Wp.seq ?_
      refine Wp.region ?_
      refine s_mv rfl rfl ?_
      refine s_mv rfl rfl ?_
      refine s_lenl rfl rfl ?_
      refine s_lt rfl rfl rfl ?_
      refine WpL.nil ?_
      refine Wp.condD rfl (fun h2 => ?_) (fun h2 => ?_)
      · have hlt : k < xs.length := by omega
        refine Wp.skip ?_
        refine Wp.seq ?_
        refine Wp.block ?_
        refine Wp.cut (smp xs[k]) [2, 3, 20, 21, 22, 23, 24, 25] ?_ (fun hc3 => ?_)
        · refine Wp.seq ?_
          refine Wp.region ?_
          refine s_mv rfl rfl ?_
          refine s_mv rfl rfl ?_
          refine s_ixa k rfl rfl rfl hA (by first | exact Take.ent' (by repeat' constructor) | (repeat (first | exact Ent.refl _ | refine Ent.drop ?_))) rfl (by omega) (by simp only [lens]; omega) ?_
          refine s_ldx rfl rfl hA (by first | exact Take.ent' (by repeat' constructor) | (repeat (first | exact Ent.refl _ | refine Ent.drop ?_))) (ints_at xs hlt) ?_
          refine s_callf rfl rfl (by repeat' constructor) (rin_spec _) ?_
          rintro _ _ ⟨rfl, rfl⟩
          simp only [napp]
          refine s_notD rfl rfl ?_
          refine WpL.nil ?_
          refine Wp.condD rfl (fun h3 => ?_) (fun h3 => ?_)
          · refine Wp.seq ?_
            refine Wp.region ?_
            refine s_as rfl rfl ?_
            refine s_as rfl rfl ?_
            refine WpL.nil ?_
            refine Wp.ret ?_
            apply RetQ.mk
            · exact (Res.two rfl rfl rfl)
            · exact ⟨by rw [packS_bad xs (by omega) hlt h3], rfl⟩
            · first | exact Ent.refl _ | exact Ent.nil _ | exact Take.ent' (by repeat' constructor) | (repeat (first | exact Ent.refl _ | refine Ent.drop ?_))
          · refine Wp.skip ?_
            refine cut_end ?_ (by repeat (first | exact Top.refl | refine Top.push rfl ?_ | refine Top.drop rfl ?_)) (by first | exact Ent.refl _ | exact Ent.nil _ | exact Take.ent' (by repeat' constructor) | (repeat (first | exact Ent.refl _ | refine Ent.drop ?_)))
            exact Decidable.not_not.1 h3
        · have hp := packF_step hlt (by omega) hsm
          have hgood := hc3
          unfold smp at hc3
          have hstep : packF (xs.take k) 0 * 65536 + xs[k] = packF (xs.take (k + 1)) 0 := by rw [take_snoc' xs hlt, packF_snoc]
          refine Wp.region ?_
          refine s_mv rfl rfl ?_
          first | refine s_mul rfl rfl rfl (w_i64 (by omega) (by omega)) ?_ | refine s_mulw rfl rfl rfl ?_
          refine s_mv rfl rfl ?_
          refine s_mv rfl rfl ?_
          refine s_ixa k rfl rfl rfl hA (by first | exact Take.ent' (by repeat' constructor) | (repeat (first | exact Ent.refl _ | refine Ent.drop ?_))) rfl (by omega) (by simp only [lens]; omega) ?_
          refine s_ldx rfl rfl hA (by first | exact Take.ent' (by repeat' constructor) | (repeat (first | exact Ent.refl _ | refine Ent.drop ?_))) (ints_at xs hlt) ?_
          first | refine s_add rfl rfl rfl (w_i64 (by omega) (by omega)) ?_ | refine s_addw rfl rfl rfl ?_
          refine s_as rfl rfl ?_
          refine WpL.nil ?_
          refine Wp.region ?_
          refine s_mv rfl rfl ?_
          first | refine s_add rfl rfl rfl (w_i64 (by omega) (by omega)) ?_ | refine s_addw rfl rfl rfl ?_
          refine s_as rfl rfl ?_
          refine WpL.nil ?_
          refine loopD.next (k + 1) ?_ ?_ (by repeat (first | exact Top.refl | refine Top.push rfl ?_ | refine Top.drop rfl ?_)) (FrLe.cons rfl (FrLe.cons (by exact congrArg (fun x => some (Value.int .i64 x)) hstep) FrLe.nil)) ?_
          · refine ⟨by omega, ?_⟩
            rw [take_snoc' xs hlt]
            intro n hn
            rcases List.mem_append.1 hn with hn | hn
            · exact hsm n hn
            · have := List.mem_singleton.1 hn; subst this; exact hgood
          · omega
          · first | exact Ent.refl _ | exact Ent.nil _ | exact Take.ent' (by repeat' constructor) | (repeat (first | exact Ent.refl _ | refine Ent.drop ?_))
      · have hke : k = xs.length := by omega
        have hsm' : ∀ n ∈ xs, smp n := by rw [hke, List.take_length] at hsm; exact hsm
        have hpa := packF_all (by omega) hsm'
        have hpt : packF (xs.take k) 0 = packF xs 0 := by rw [hke, List.take_length]
        refine Wp.exit ?_
        refine Wp.seq ?_
        refine Wp.region ?_
        refine s_mv rfl rfl ?_
        refine s_mv rfl rfl ?_
        refine s_lenl rfl rfl ?_
        first | refine s_mul rfl rfl rfl (w_i64 (by omega) (by omega)) ?_ | refine s_mulw rfl rfl rfl ?_
        rw [hpt]
        refine s_add rfl rfl rfl (w_i64 (by omega) (by omega)) ?_
        first | refine s_cvi rfl Try.underlying3 rfl (w_u64 (by omega) (by omega)) ?_ | refine s_cviw rfl Try.underlying3 rfl ?_
        refine s_as rfl rfl ?_
        refine s_as rfl rfl ?_
        refine WpL.nil ?_
        refine Wp.ret ?_
        apply RetQ.mk
        · exact (Res.two rfl rfl rfl)
        · exact ⟨by rw [packS_ok xs (by omega) hsm'], rfl⟩
        · first | exact Ent.refl _ | exact Ent.nil _ | exact Take.ent' (by repeat' constructor) | (repeat (first | exact Ent.refl _ | refine Ent.drop ?_))


def maxL : List Int → Int
  | [] => 0
  | x :: xs => xs.foldl max x
theorem maxL_take (xs : List Int) {k : Nat} (h0 : 0 < k) (hk : k < xs.length) : max (maxL (xs.take k)) xs[k] = maxL (xs.take (k + 1)) := by
  rw [take_snoc' xs hk]
  cases xs with
  | nil => simp at hk
  | cons x xs =>
    cases k with
    | zero => omega
    | succ k => simp only [List.length_cons, Nat.add_lt_add_iff_right] at hk; simp only [maxL, List.take_succ_cons, List.cons_append, List.foldl_append, List.foldl_cons, List.foldl_nil, List.getElem_cons_succ]
theorem maxL_le (xs : List Int) (m : Int) (h : xs ≠ []) : maxL xs ≤ m ↔ ∀ n ∈ xs, n ≤ m := by
  cases xs with
  | nil => exact absurd rfl h
  | cons x xs =>
    have key : ∀ (xs : List Int) (x : Int), xs.foldl max x ≤ m ↔ x ≤ m ∧ ∀ n ∈ xs, n ≤ m := by
      intro xs
      induction xs with
      | nil => intro x; simp
      | cons y ys ih => intro x; simp only [List.foldl_cons, ih, List.mem_cons, forall_eq_or_imp]; exact ⟨fun ⟨h1, h2⟩ => ⟨by omega, by omega, h2⟩, fun ⟨h1, h2, h3⟩ => ⟨by omega, h3⟩⟩
    simp [maxL, key]

theorem Max_spec (As : List HP) (a : Option Addr) (c : Nat) (xs : List Int) (hA : RdsL As a (ints xs)) (hm : xs.length ≤ 281474976710656) (hne : 0 < xs.length) : Fn Try.prog 40 #[.slice a xs.length c] As (fun v l => v = .int .i64 (maxL xs) ∧ l = As) := by
  have hfirst : xs[0]'hne = maxL (xs.take 1) := by cases xs with | nil => simp at hne | cons x xs => rfl
  refine Fn.intro (vs := [.slice a xs.length c]) Try.func40 rfl Try.ntmps40 rfl ?_
  refine Wp.seq ?_
  refine Wp.region ?_
  refine s_as rfl rfl ?_
  refine WpL.nil ?_
  refine Wp.seq ?_
  refine Wp.seq ?_
  refine Wp.region ?_
  refine s_mv rfl rfl ?_
  refine s_lenl rfl rfl ?_
  refine s_lt rfl rfl rfl ?_
  refine WpL.nil ?_
  refine Wp.condDF rfl (by omega) ?_
  refine Wp.skip ?_
  refine Wp.seq ?_
  refine Wp.region ?_
  refine s_mv rfl rfl ?_
  refine s_ixa 0 rfl rfl rfl hA (by first | exact Take.ent' (by repeat' constructor) | (repeat (first | exact Ent.refl _ | refine Ent.drop ?_))) rfl (by omega) (by simp only [ints_len]; omega) ?_
  refine s_ldx rfl rfl hA (by first | exact Take.ent' (by repeat' constructor) | (repeat (first | exact Ent.refl _ | refine Ent.drop ?_))) (ints_at xs hne) ?_
  refine s_as rfl rfl ?_
  refine WpL.nil ?_
  refine Wp.seq ?_
  refine Wp.seq ?_
  refine Wp.region ?_
  refine s_as rfl rfl ?_
  refine WpL.nil ?_
  refine Wp.block ?_
  refine Wp.loopD (σ := Nat) (fun k => 0 < k ∧ k ≤ xs.length) [3, 4, 12, 13, 14, 15, 16, 17, 18, 19, 20, 21, 22, 23] (fun k => [(4, .int .i64 (k : Int)), (3, .int .i64 (maxL (xs.take k)))]) (fun _ => _) (fun k => xs.length - k) 1 ?_ (FrLe.cons rfl (FrLe.cons (by exact congrArg (fun x => some (Value.int .i64 x)) hfirst) FrLe.nil)) (Ent.refl _) ?_
  · omega
  · rintro k ⟨hk0, hk⟩
    refine Wp.seq ?_
    refine Wp.seq ?_
    refine Wp.region ?_
    refine s_mv rfl rfl ?_
    refine s_mv rfl rfl ?_
    refine s_lenl rfl rfl ?_
    refine s_lt rfl rfl rfl ?_
    refine WpL.nil ?_
    refine Wp.condD rfl (fun h2 => ?_) (fun h2 => ?_)
    · have hlt : k < xs.length := by omega
      refine Wp.skip ?_
      refine Wp.seq ?_
      refine Wp.block ?_
      refine Wp.region ?_
      refine s_mv rfl rfl ?_
      refine s_mv rfl rfl ?_
      refine s_mv rfl rfl ?_
      refine s_ixa k rfl rfl rfl hA (by first | exact Take.ent' (by repeat' constructor) | (repeat (first | exact Ent.refl _ | refine Ent.drop ?_))) rfl (by omega) (by simp only [lens]; omega) ?_
      refine s_ldx rfl rfl hA (by first | exact Take.ent' (by repeat' constructor) | (repeat (first | exact Ent.refl _ | refine Ent.drop ?_))) (ints_at xs hlt) ?_
      refine s_max2 rfl rfl rfl ?_
      refine s_as rfl rfl ?_
      refine WpL.nil ?_
      refine Wp.region ?_
      refine s_mv rfl rfl ?_
      first | refine s_add rfl rfl rfl (w_i64 (by omega) (by omega)) ?_ | refine s_addw rfl rfl rfl ?_
      refine s_as rfl rfl ?_
      refine WpL.nil ?_
      refine loopD.next (k + 1) ?_ ?_ (by repeat (first | exact Top.refl | refine Top.push rfl ?_ | refine Top.drop rfl ?_)) (FrLe.cons rfl (FrLe.cons (by exact congrArg (fun x => some (Value.int .i64 x)) (maxL_take xs hk0 hlt)) FrLe.nil)) ?_
      · omega
      · omega
      · first | exact Ent.refl _ | exact Ent.nil _ | exact Take.ent' (by repeat' constructor) | (repeat (first | exact Ent.refl _ | refine Ent.drop ?_))
    · have hke : k = xs.length := by omega
      refine Wp.exit ?_
      refine Wp.seq ?_
      refine Wp.region ?_
      refine s_mv rfl rfl ?_
      refine s_as rfl rfl ?_
      refine WpL.nil ?_
      refine Wp.ret ?_
      apply RetQ.mk
      · exact (Res.one rfl rfl)
      · exact ⟨by rw [hke, List.take_length], rfl⟩
      · first | exact Ent.refl _ | exact Ent.nil _ | exact Take.ent' (by repeat' constructor) | (repeat (first | exact Ent.refl _ | refine Ent.drop ?_))

def FitP (p ch mx : Int) : Prop := FmtP ch mx ∧ ((unpackS p).length : Int) = ch ∧ ∀ n ∈ unpackS p, n ≤ mx
instance (p ch mx : Int) : Decidable (FitP p ch mx) := by unfold FitP; infer_instance
theorem unpackS_len (p : Int) : (unpackS p).length ≤ 3 := by unfold unpackS; split <;> (try split) <;> simp

theorem Fits_a (p ch mx : Int) (h0 : 0 ≤ p) (h1 : p < 18446744073709551616) (h1' : ¬ FmtP ch mx) : Fn Try.prog 17 #[.int .u64 p, .agg #[.int .i64 ch, .int .i64 mx]] [] (fun v l => v = .bool (decide (FitP p ch mx)) ∧ l = []) := by
  refine Fn.intro (vs := [.int .u64 p, .agg #[.int .i64 ch, .int .i64 mx]]) Try.func17 rfl Try.ntmps17 rfl ?_
  refine Wp.seq ?_
  refine Wp.region ?_
  refine s_box rfl rfl rfl ?_
  intro g1
  refine s_as rfl rfl ?_
  refine WpL.nil ?_
  refine Wp.seq ?_
  refine Wp.region ?_
  refine s_mv rfl rfl ?_
  refine s_callf rfl rfl (by repeat' constructor) (Unpack_spec _ (by omega) (by omega)) ?_
  rintro _ _ ⟨A1, a1, c1, rfl, rfl, hA1, hn1⟩
  simp only [napp]
  refine s_as rfl rfl ?_
  refine WpL.nil ?_
  refine Wp.seq ?_
  apply Wp.draw mixed [⟨8, _, []⟩, ⟨9, _, [0]⟩, ⟨10, _, [1]⟩, ⟨11, _, [2]⟩, ⟨12, _, [3, 2]⟩, ⟨13, _, [2]⟩, ⟨14, _, [5, 2]⟩, ⟨15, _, [4, 6, 2]⟩, ⟨16, _, [2, 7]⟩, ⟨17, _, [8, 2]⟩, ⟨18, _, [9]⟩, ⟨19, _, [10, 9]⟩, ⟨20, _, [9]⟩, ⟨21, _, [12, 9]⟩, ⟨22, _, [11, 13, 9]⟩, ⟨23, _, [9, 14]⟩, ⟨4, _, [15, 11, 0, 1, 2, 3, 4, 5, 6, 7, 8, 9, 10, 12, 13, 14]⟩] rfl
  · refine AllObs.mk ?_ ?_
    · refine s_lda (vs := [_, _]) rfl rfl rfl (by rfl) ?_
      exact obN rfl
    refine AllObs.mk ?_ ?_
    · refine s_callf rfl rfl (by repeat' constructor) (Format1_spec _ _) ?_
      rintro _ _ ⟨rfl, rfl⟩
      simp only [napp]
      exact WpL.nil ⟨rfl, rfl, rfl, by first | exact Ent.refl _ | exact Ent.nil _ | exact Take.ent' (by repeat' constructor) | (repeat (first | exact Ent.refl _ | refine Ent.drop ?_))⟩
    refine AllObs.mk ?_ ?_
    · refine s_mv rfl rfl ?_
      exact obN rfl
    refine AllObs.mk ?_ ?_
    · refine WpL.knowF (dj := 10) rfl (decide_eq_false h1') ?_
      refine WpL.goff rfl rfl rfl (by decide) ?_
      exact obN rfl
    refine AllObs.mk ?_ ?_
    · refine WpL.knowF (dj := 10) rfl (decide_eq_false h1') ?_
      refine WpL.goff rfl rfl rfl (by decide) ?_
      exact WpL.nil ⟨rfl, rfl, rfl, by first | exact Ent.refl _ | exact Ent.nil _ | exact Take.ent' (by repeat' constructor) | (repeat (first | exact Ent.refl _ | refine Ent.drop ?_))⟩
    refine AllObs.mk ?_ ?_
    · refine WpL.knowF (dj := 10) rfl (decide_eq_false h1') ?_
      refine WpL.goff rfl rfl rfl (by decide) ?_
      exact obN rfl
    refine AllObs.mk ?_ ?_
    · refine WpL.knowF (dj := 10) rfl (decide_eq_false h1') ?_
      refine WpL.goff rfl rfl rfl (by decide) ?_
      exact obN rfl
    refine AllObs.mk ?_ ?_
    · refine WpL.knowF (dj := 10) rfl (decide_eq_false h1') ?_
      refine WpL.goff rfl rfl rfl (by decide) ?_
      exact obN rfl
    refine AllObs.mk ?_ ?_
    · refine WpL.knowF (dj := 10) rfl (decide_eq_false h1') ?_
      refine s_pickF rfl rfl rfl ?_
      exact obN rfl
    refine AllObs.mk ?_ ?_
    · refine s_mv rfl rfl ?_
      exact obN rfl
    refine AllObs.mk ?_ ?_
    · refine WpL.goff rfl rfl rfl (by decide) ?_
      exact obN rfl
    refine AllObs.mk ?_ ?_
    · refine WpL.goff rfl rfl rfl (by decide) ?_
      exact WpL.nil ⟨rfl, rfl, rfl, by first | exact Ent.refl _ | exact Ent.nil _ | exact Take.ent' (by repeat' constructor) | (repeat (first | exact Ent.refl _ | refine Ent.drop ?_))⟩
    refine AllObs.mk ?_ ?_
    · refine WpL.goff rfl rfl rfl (by decide) ?_
      exact obN rfl
    refine AllObs.mk ?_ ?_
    · refine WpL.goff rfl rfl rfl (by decide) ?_
      exact obN rfl
    refine AllObs.mk ?_ ?_
    · refine WpL.goff rfl rfl rfl (by decide) ?_
      exact obN rfl
    refine AllObs.mk ?_ ?_
    · refine s_pickF rfl rfl rfl ?_
      exact obN rfl
    refine AllObs.mk ?_ ?_
    · refine s_as rfl rfl ?_
      exact obN rfl
    exact AllObs.nil
  · refine Wp.ret ?_
    apply RetQ.mk
    · exact (Res.one rfl rfl)
    · exact ⟨congrArg Value.bool (by first | exact dd (by unfold FitP; rw [maxL_le _ _ (fun e => by rw [e] at h2; unfold FmtP at h1'; simp at h2; omega)]; simp [h1', h2]) | exact df (by unfold FitP; simp [*]) | exact df (fun hf => h1' hf.1) | exact df (fun hf => h2 hf.2.1)), rfl⟩
    · exact Ent.nil _

theorem Fits_b (p ch mx : Int) (h0 : 0 ≤ p) (h1 : p < 18446744073709551616) (h1' : FmtP ch mx) (h2 : ¬ ((unpackS p).length : Int) = ch) : Fn Try.prog 17 #[.int .u64 p, .agg #[.int .i64 ch, .int .i64 mx]] [] (fun v l => v = .bool (decide (FitP p ch mx)) ∧ l = []) := by
  refine Fn.intro (vs := [.int .u64 p, .agg #[.int .i64 ch, .int .i64 mx]]) Try.func17 rfl Try.ntmps17 rfl ?_
  refine Wp.seq ?_
  refine Wp.region ?_
  refine s_box rfl rfl rfl ?_
  intro g1
  refine s_as rfl rfl ?_
  refine WpL.nil ?_
  refine Wp.seq ?_
  refine Wp.region ?_
  refine s_mv rfl rfl ?_
  refine s_callf rfl rfl (by repeat' constructor) (Unpack_spec _ (by omega) (by omega)) ?_
  rintro _ _ ⟨A1, a1, c1, rfl, rfl, hA1, hn1⟩
  simp only [napp]
  refine s_as rfl rfl ?_
  refine WpL.nil ?_
  refine Wp.seq ?_
  apply Wp.draw mixed [⟨8, _, []⟩, ⟨9, _, [0]⟩, ⟨10, _, [1]⟩, ⟨11, _, [2]⟩, ⟨12, _, [3, 2]⟩, ⟨13, _, [2]⟩, ⟨14, _, [5, 2]⟩, ⟨15, _, [4, 6, 2]⟩, ⟨16, _, [2, 7]⟩, ⟨17, _, [8, 2]⟩, ⟨18, _, [9]⟩, ⟨19, _, [10, 9]⟩, ⟨20, _, [9]⟩, ⟨21, _, [12, 9]⟩, ⟨22, _, [11, 13, 9]⟩, ⟨23, _, [9, 14]⟩, ⟨4, _, [15, 11, 0, 1, 2, 3, 4, 5, 6, 7, 8, 9, 10, 12, 13, 14]⟩] rfl
  · refine AllObs.mk ?_ ?_
    · refine s_lda (vs := [_, _]) rfl rfl rfl (by rfl) ?_
      exact obN rfl
    refine AllObs.mk ?_ ?_
    · refine s_callf rfl rfl (by repeat' constructor) (Format1_spec _ _) ?_
      rintro _ _ ⟨rfl, rfl⟩
      simp only [napp]
      exact WpL.nil ⟨rfl, rfl, rfl, by first | exact Ent.refl _ | exact Ent.nil _ | exact Take.ent' (by repeat' constructor) | (repeat (first | exact Ent.refl _ | refine Ent.drop ?_))⟩
    refine AllObs.mk ?_ ?_
    · refine s_mv rfl rfl ?_
      exact obN rfl
    refine AllObs.mk ?_ ?_
    · refine WpL.knowT (dj := 10) rfl (decide_eq_true h1') ?_
      refine WpL.gon rfl rfl ?_
      refine s_mv rfl rfl ?_
      exact obN rfl
    refine AllObs.mk ?_ ?_
    · refine WpL.knowT (dj := 10) rfl (decide_eq_true h1') ?_
      refine WpL.gon rfl rfl ?_
      refine s_lenl rfl rfl ?_
      exact WpL.nil ⟨rfl, rfl, rfl, by first | exact Ent.refl _ | exact Ent.nil _ | exact Take.ent' (by repeat' constructor) | (repeat (first | exact Ent.refl _ | refine Ent.drop ?_))⟩
    refine AllObs.mk ?_ ?_
    · refine WpL.knowT (dj := 10) rfl (decide_eq_true h1') ?_
      refine WpL.gon rfl rfl ?_
      refine s_fa (o2 := 0) rfl rfl rfl ?_
      exact obN rfl
    refine AllObs.mk ?_ ?_
    · refine WpL.knowT (dj := 10) rfl (decide_eq_true h1') ?_
      refine WpL.gon rfl rfl ?_
      refine s_ld rfl rfl (by rfl) ?_
      exact obN rfl
    refine AllObs.mk ?_ ?_
    · refine WpL.knowT (dj := 10) rfl (decide_eq_true h1') ?_
      refine WpL.gon rfl rfl ?_
      refine s_eq rfl rfl rfl ?_
      exact obN rfl
    refine AllObs.mk ?_ ?_
    · refine WpL.knowT (dj := 10) rfl (decide_eq_true h1') ?_
      refine s_pickT rfl rfl rfl ?_
      exact obN rfl
    refine AllObs.mk ?_ ?_
    · refine s_mv rfl rfl ?_
      exact obN rfl
    refine AllObs.mk ?_ ?_
    · refine WpL.knowF (dj := 17) rfl (decide_eq_false h2) ?_
      refine WpL.goff rfl rfl rfl (by decide) ?_
      exact obN rfl
    refine AllObs.mk ?_ ?_
    · refine WpL.knowF (dj := 17) rfl (decide_eq_false h2) ?_
      refine WpL.goff rfl rfl rfl (by decide) ?_
      exact WpL.nil ⟨rfl, rfl, rfl, by first | exact Ent.refl _ | exact Ent.nil _ | exact Take.ent' (by repeat' constructor) | (repeat (first | exact Ent.refl _ | refine Ent.drop ?_))⟩
    refine AllObs.mk ?_ ?_
    · refine WpL.knowF (dj := 17) rfl (decide_eq_false h2) ?_
      refine WpL.goff rfl rfl rfl (by decide) ?_
      exact obN rfl
    refine AllObs.mk ?_ ?_
    · refine WpL.knowF (dj := 17) rfl (decide_eq_false h2) ?_
      refine WpL.goff rfl rfl rfl (by decide) ?_
      exact obN rfl
    refine AllObs.mk ?_ ?_
    · refine WpL.knowF (dj := 17) rfl (decide_eq_false h2) ?_
      refine WpL.goff rfl rfl rfl (by decide) ?_
      exact obN rfl
    refine AllObs.mk ?_ ?_
    · refine WpL.knowF (dj := 17) rfl (decide_eq_false h2) ?_
      refine s_pickF rfl rfl rfl ?_
      exact obN rfl
    refine AllObs.mk ?_ ?_
    · refine s_as rfl rfl ?_
      exact obN rfl
    exact AllObs.nil
  · refine Wp.ret ?_
    apply RetQ.mk
    · exact (Res.one rfl rfl)
    · exact ⟨congrArg Value.bool (by first | exact dd (by unfold FitP; rw [maxL_le _ _ (fun e => by rw [e] at h2; unfold FmtP at h1'; simp at h2; omega)]; simp [h1', h2]) | exact df (by unfold FitP; simp [*]) | exact df (fun hf => h1' hf.1) | exact df (fun hf => h2 hf.2.1)), rfl⟩
    · exact Ent.nil _

theorem Fits_c (p ch mx : Int) (h0 : 0 ≤ p) (h1 : p < 18446744073709551616) (h1' : FmtP ch mx) (h2 : ((unpackS p).length : Int) = ch) : Fn Try.prog 17 #[.int .u64 p, .agg #[.int .i64 ch, .int .i64 mx]] [] (fun v l => v = .bool (decide (FitP p ch mx)) ∧ l = []) := by
  refine Fn.intro (vs := [.int .u64 p, .agg #[.int .i64 ch, .int .i64 mx]]) Try.func17 rfl Try.ntmps17 rfl ?_
  refine Wp.seq ?_
  refine Wp.region ?_
  refine s_box rfl rfl rfl ?_
  intro g1
  refine s_as rfl rfl ?_
  refine WpL.nil ?_
  refine Wp.seq ?_
  refine Wp.region ?_
  refine s_mv rfl rfl ?_
  refine s_callf rfl rfl (by repeat' constructor) (Unpack_spec _ (by omega) (by omega)) ?_
  rintro _ _ ⟨A1, a1, c1, rfl, rfl, hA1, hn1⟩
  simp only [napp]
  refine s_as rfl rfl ?_
  refine WpL.nil ?_
  refine Wp.seq ?_
  apply Wp.draw mixed [⟨8, _, []⟩, ⟨9, _, [0]⟩, ⟨10, _, [1]⟩, ⟨11, _, [2]⟩, ⟨12, _, [3, 2]⟩, ⟨13, _, [2]⟩, ⟨14, _, [5, 2]⟩, ⟨15, _, [4, 6, 2]⟩, ⟨16, _, [2, 7]⟩, ⟨17, _, [8, 2]⟩, ⟨18, _, [9]⟩, ⟨19, _, [10, 9]⟩, ⟨20, _, [9]⟩, ⟨21, _, [12, 9]⟩, ⟨22, _, [11, 13, 9]⟩, ⟨23, _, [9, 14]⟩, ⟨4, _, [15, 11, 0, 1, 2, 3, 4, 5, 6, 7, 8, 9, 10, 12, 13, 14]⟩] rfl
  · refine AllObs.mk ?_ ?_
    · refine s_lda (vs := [_, _]) rfl rfl rfl (by rfl) ?_
      exact obN rfl
    refine AllObs.mk ?_ ?_
    · refine s_callf rfl rfl (by repeat' constructor) (Format1_spec _ _) ?_
      rintro _ _ ⟨rfl, rfl⟩
      simp only [napp]
      exact WpL.nil ⟨rfl, rfl, rfl, by first | exact Ent.refl _ | exact Ent.nil _ | exact Take.ent' (by repeat' constructor) | (repeat (first | exact Ent.refl _ | refine Ent.drop ?_))⟩
    refine AllObs.mk ?_ ?_
    · refine s_mv rfl rfl ?_
      exact obN rfl
    refine AllObs.mk ?_ ?_
    · refine WpL.knowT (dj := 10) rfl (decide_eq_true h1') ?_
      refine WpL.gon rfl rfl ?_
      refine s_mv rfl rfl ?_
      exact obN rfl
    refine AllObs.mk ?_ ?_
    · refine WpL.knowT (dj := 10) rfl (decide_eq_true h1') ?_
      refine WpL.gon rfl rfl ?_
      refine s_lenl rfl rfl ?_
      exact WpL.nil ⟨rfl, rfl, rfl, by first | exact Ent.refl _ | exact Ent.nil _ | exact Take.ent' (by repeat' constructor) | (repeat (first | exact Ent.refl _ | refine Ent.drop ?_))⟩
    refine AllObs.mk ?_ ?_
    · refine WpL.knowT (dj := 10) rfl (decide_eq_true h1') ?_
      refine WpL.gon rfl rfl ?_
      refine s_fa (o2 := 0) rfl rfl rfl ?_
      exact obN rfl
    refine AllObs.mk ?_ ?_
    · refine WpL.knowT (dj := 10) rfl (decide_eq_true h1') ?_
      refine WpL.gon rfl rfl ?_
      refine s_ld rfl rfl (by rfl) ?_
      exact obN rfl
    refine AllObs.mk ?_ ?_
    · refine WpL.knowT (dj := 10) rfl (decide_eq_true h1') ?_
      refine WpL.gon rfl rfl ?_
      refine s_eq rfl rfl rfl ?_
      exact obN rfl
    refine AllObs.mk ?_ ?_
    · refine WpL.knowT (dj := 10) rfl (decide_eq_true h1') ?_
      refine s_pickT rfl rfl rfl ?_
      exact obN rfl
    refine AllObs.mk ?_ ?_
    · refine s_mv rfl rfl ?_
      exact obN rfl
    refine AllObs.mk ?_ ?_
    · refine WpL.knowT (dj := 17) rfl (decide_eq_true h2) ?_
      refine WpL.gon rfl rfl ?_
      refine s_mv rfl rfl ?_
      exact obN rfl
    refine AllObs.mk ?_ ?_
    · refine WpL.knowT (dj := 17) rfl (decide_eq_true h2) ?_
      refine WpL.gon rfl rfl ?_
      refine s_callf rfl rfl (by repeat' constructor) (Max_spec [A1] _ _ _ hA1 (by have := unpackS_len p; omega) (by unfold FmtP at h1'; omega)) ?_
      rintro _ _ ⟨rfl, rfl⟩
      simp only [napp]
      exact WpL.nil ⟨rfl, rfl, rfl, by first | exact Ent.refl _ | exact Ent.nil _ | exact Take.ent' (by repeat' constructor) | (repeat (first | exact Ent.refl _ | refine Ent.drop ?_))⟩
    refine AllObs.mk ?_ ?_
    · refine WpL.knowT (dj := 17) rfl (decide_eq_true h2) ?_
      refine WpL.gon rfl rfl ?_
      refine s_fa (o2 := 1) rfl rfl rfl ?_
      exact obN rfl
    refine AllObs.mk ?_ ?_
    · refine WpL.knowT (dj := 17) rfl (decide_eq_true h2) ?_
      refine WpL.gon rfl rfl ?_
      refine s_ld rfl rfl (by rfl) ?_
      exact obN rfl
    refine AllObs.mk ?_ ?_
    · refine WpL.knowT (dj := 17) rfl (decide_eq_true h2) ?_
      refine WpL.gon rfl rfl ?_
      refine s_le rfl rfl rfl ?_
      exact obN rfl
    refine AllObs.mk ?_ ?_
    · refine WpL.knowT (dj := 17) rfl (decide_eq_true h2) ?_
      refine s_pickT rfl rfl rfl ?_
      exact obN rfl
    refine AllObs.mk ?_ ?_
    · refine s_as rfl rfl ?_
      exact obN rfl
    exact AllObs.nil
  · refine Wp.ret ?_
    apply RetQ.mk
    · exact (Res.one rfl rfl)
    · exact ⟨congrArg Value.bool (by first | exact dd (by unfold FitP; rw [maxL_le _ _ (fun e => by rw [e] at h2; unfold FmtP at h1'; simp at h2; omega)]; simp [h1', h2]) | exact df (by unfold FitP; simp [*]) | exact df (fun hf => h1' hf.1) | exact df (fun hf => h2 hf.2.1)), rfl⟩
    · exact Ent.nil _

theorem Fits_spec (p ch mx : Int) (h0 : 0 ≤ p) (h1 : p < 18446744073709551616) : Fn Try.prog 17 #[.int .u64 p, .agg #[.int .i64 ch, .int .i64 mx]] [] (fun v l => v = .bool (decide (FitP p ch mx)) ∧ l = []) := by
  by_cases h2 : FmtP ch mx
  · by_cases h3 : ((unpackS p).length : Int) = ch
    · exact Fits_c p ch mx h0 h1 h2 h3
    · exact Fits_b p ch mx h0 h1 h2 h3
  · exact Fits_a p ch mx h0 h1 h2

end Go.Proofs.Ytpoahaadnbdgcaa
