/- Walks and plain laws, a part of the proof of PnmOpen: every input that the law's guards let in, no condition beside. -/
import Derived.Test.YtggamdlpiejbiaaGreatM25
namespace Go.Proofs.YtggamdlpiejbiaaGreat
open Go.RowKit Go.Shelf
section
variable {P : Program} {n : Cx} {D : List Deferred} {Q : Post} {fr : Fr} {l : List HP} {fB : List HP}
def lowOk (os : List Oper) : Bool := ((os.zipIdx).all fun (o, i) => o.after.toList.all fun e => !Region.binds .any e || Nat.blt e.on i) && (os.all fun o => match o.guard with | some p => Nat.blt p.1 os.length | none => true)
theorem any_tail {os tl : List Oper} {Q Q' : Exit → Act → World → Prop} (ht : tailOk os.length tl = true) (hlo : lowOk os = true) (hq : ∀ e a w, e ≠ .normal → Q' e a w → Q e a w) (hn : ∀ a w, Q' .normal a w → wpListIn (FR n.ro) 0 P (os ++ tl).toArray Q tl a w) :
    ∀ (fuel : Nat) (listed listed' : Array Bool) (a : Act) (w : World), listed.size = (os ++ tl).length → listed'.size = os.length → (∀ i, i < os.length → listed'.getD i false = listed.getD i false) → (∀ i, os.length ≤ i → i < (os ++ tl).length → listed.getD i false = false) →
    wpAnyIn (FR n.ro) 0 P .any os.toArray Q' fuel listed' a w → wpAnyIn (FR n.ro) 0 P .any (os ++ tl).toArray Q (fuel + tl.length) listed a w := by
  simp only [lowOk, Bool.and_eq_true] at hlo
  obtain ⟨hlow, hgd⟩ := hlo
  have hlow' : ∀ (i : Nat) (o : Oper), os[i]? = some o → ∀ e ∈ o.after, Region.binds .any e = true → e.on < i := fun i o ho e he hb => by
    have h1 := List.all_eq_true.1 hlow (o, i) (List.mem_zipIdx_iff_getElem?.2 ho)
    have h2 := List.all_eq_true.1 h1 e (Array.mem_toList_iff.2 he)
    rw [hb] at h2
    exact Eq.mp Nat.blt_eq h2
  have hget : ∀ i, i < os.length → (os ++ tl)[i]? = os[i]? := fun i hi => List.getElem?_append_left hi
  have hrdy : ∀ (listed listed' : Array Bool), listed.size = (os ++ tl).length → listed'.size = os.length → (∀ i, i < os.length → listed'.getD i false = listed.getD i false) → ∀ i, i < os.length → (i ∈ Region.ready .any (os ++ tl).toArray listed ↔ i ∈ Region.ready .any os.toArray listed') := by
    intro listed listed' hs hs' hl i hi
    have hgt : listed'.getD i true = listed.getD i true := by
      have h1 := hl i hi
      have h2 : i < (os ++ tl).length := by simp; omega
      simp only [Array.getD, hs, hs', hi, h2, dite_true] at h1 ⊢
      exact h1
    have hon : ∀ (o : Oper), os[i]? = some o → ∀ e ∈ o.after, Region.binds .any e = true → listed'.getD e.on false = listed.getD e.on false := fun o ho e he hb => hl _ (by have := hlow' i o ho e he hb; omega)
    rw [mem_ready, mem_ready, hgt]
    constructor
    · rintro ⟨h1, o, ho, he⟩
      have ho' : os[i]? = some o := by rw [← hget i hi]; simpa using ho
      exact ⟨h1, o, by simpa using ho', fun e hee hb => by rw [hon o ho' e hee hb]; exact he e hee hb⟩
    · rintro ⟨h1, o, ho, he⟩
      have ho' : os[i]? = some o := by simpa using ho
      exact ⟨h1, o, by have := hget i hi; rw [ho'] at this; simpa using this, fun e hee hb => by rw [← hon o ho' e hee hb]; exact he e hee hb⟩
  -- all listed, or one is ready
  have hprog : ∀ (listed' : Array Bool), listed'.size = os.length → (∀ i, i < os.length → listed'.getD i false = true) ∨ ∃ i, i < os.length ∧ i ∈ Region.ready .any os.toArray listed' := by
    intro listed' hs'
    have key : ∀ k, k ≤ os.length → (∀ i, i < k → listed'.getD i false = true) ∨ ∃ i, i < os.length ∧ i ∈ Region.ready .any os.toArray listed' := by
      intro k
      induction k with
      | zero => intro _; exact .inl fun i hi => by omega
      | succ k ih =>
        intro hk
        rcases ih (by omega) with h | h
        · cases hb : listed'.getD k false with
          | true =>
            refine .inl fun i hi => ?_
            by_cases e : i = k
            · rw [e]; exact hb
            · exact h i (by omega)
          | false =>
            refine .inr ⟨k, by omega, mem_ready.2 ⟨?_, os[k]'(by omega), by simp, fun e he hbd => h _ (hlow' k _ (List.getElem?_eq_getElem (by omega)) e he hbd)⟩⟩
            have hk' : k < listed'.size := by omega
            simp only [Array.getD, hk', dite_true] at hb ⊢
            exact hb
        · exact .inr h
    exact key _ (Nat.le_refl _)
  have hdone : ∀ (fuel : Nat) (listed listed' : Array Bool) (a : Act) (w : World), listed.size = (os ++ tl).length → listed'.size = os.length → (∀ i, i < os.length → listed'.getD i false = listed.getD i false) → (∀ i, os.length ≤ i → i < (os ++ tl).length → listed.getD i false = false) → (∀ i, i < os.length → listed'.getD i false = true) → Q' .normal a w → wpAnyIn (FR n.ro) 0 P .any (os ++ tl).toArray Q (fuel + tl.length) listed a w := by
    intro fuel listed listed' a w hs hs' hl htl hall h
    refine tail_any tl os rfl ht _ listed a w hs (by omega) (fun i hi => ?_) (hn a w h)
    by_cases hi2 : i < os.length
    · rw [← hl i hi2, hall i hi2]; simp [hi2]
    · rw [htl i (by omega) hi]; simp [hi2]
  have hnr : ∀ (listed' : Array Bool), listed'.size = os.length → (∀ i, i < os.length → listed'.getD i false = true) → Region.ready .any os.toArray listed' = [] := by
    intro listed' hs' hall
    refine List.eq_nil_iff_forall_not_mem.2 fun i hi => ?_
    obtain ⟨h1, o, ho', _⟩ := mem_ready.1 hi
    have hlt : i < os.length := by simpa using (Array.getElem?_eq_some_iff.1 ho').1
    have h2 := hall i hlt
    have hlt' : i < listed'.size := by omega
    simp only [Array.getD, hlt', dite_true] at h1 h2
    rw [h2] at h1; cases h1
  -- an operation of the tail is not ready ahead of all others
  have htr : ∀ (listed : Array Bool), listed.size = (os ++ tl).length → (∃ i, i < os.length ∧ listed.getD i false = false) → ∀ i ∈ Region.ready .any (os ++ tl).toArray listed, i < os.length := by
    intro listed hs ⟨j, hj, hjf⟩ i hi
    refine Classical.byContradiction fun hge => ?_
    obtain ⟨_, o, ho, he⟩ := mem_ready.1 hi
    have ho' : (os ++ tl)[i]? = some o := by simpa using ho
    rw [List.getElem?_append_right (by omega)] at ho'
    have h2 := List.all_eq_true.1 ht (o, i) (by
      rw [List.mem_zipIdx_iff_le_and_getElem?_sub]
      exact ⟨by omega, ho'⟩)
    simp only [Bool.and_eq_true] at h2
    have h4 := List.all_eq_true.1 h2.1 j (by simp; omega)
    obtain ⟨e, he', hc⟩ := List.any_eq_true.1 h4
    simp only [Bool.and_eq_true, beq_iff_eq] at hc
    have h5 := he e (Array.mem_toList_iff.1 he') hc.1
    rw [hc.2, hjf] at h5
    cases h5
  intro fuel
  induction fuel with
  | zero =>
    intro listed listed' a w hs hs' hl htl h
    obtain ⟨h1, h2⟩ := h
    rcases hprog listed' hs' with hall | ⟨i, hi, hir⟩
    · exact hdone 0 listed listed' a w hs hs' hl htl hall h2
    · rw [h1] at hir; cases hir
  | succ fuel ih =>
    intro listed listed' a w hs hs' hl htl h
    obtain ⟨h1, h2⟩ := h
    by_cases hall : ∀ i, i < os.length → listed'.getD i false = true
    · exact hdone (fuel + 1) listed listed' a w hs hs' hl htl hall (h1 (hnr listed' hs' hall))
    have hex : ∃ i, i < os.length ∧ listed.getD i false = false := by
      refine Classical.byContradiction fun hc => hall fun i hi => ?_
      rw [hl i hi]
      cases hb : listed.getD i false with
      | true => rfl
      | false => exact absurd ⟨i, hi, hb⟩ hc
    rw [show fuel + 1 + tl.length = (fuel + tl.length) + 1 by omega]
    refine ⟨fun hr => ?_, fun i hi => ?_⟩
    · rcases hprog listed' hs' with h | ⟨i, hi, hir⟩
      · exact absurd h hall
      · have := (hrdy listed listed' hs hs' hl i hi).2 hir
        rw [hr] at this; cases this
    · have hil := htr listed hs hex i hi
      have h3 := h2 i ((hrdy listed listed' hs hs' hl i hil).1 hi)
      have ho : os[i]? = some os[i] := List.getElem?_eq_getElem hil
      unfold wpOpIn at h3 ⊢
      have e1 : os.toArray[i]? = some os[i] := by simpa using ho
      have e2 : (os ++ tl).toArray[i]? = some os[i] := by have := hget i hil; rw [ho] at this; simpa using this
      rw [e1] at h3
      rw [e2]
      have hw : Region.wanted os[i] (yielded (os ++ tl).toArray a.tmps) = Region.wanted os[i] (yielded os.toArray a.tmps) := by
        cases hg : os[i].guard with
        | none => simp [Region.wanted, hg]
        | some p =>
          obtain ⟨j, b⟩ := p
          have hj : j < os.length := by
            have := List.all_eq_true.1 hgd os[i] (List.getElem_mem hil)
            rw [hg] at this
            exact Eq.mp Nat.blt_eq this
          have hy : yielded (os ++ tl).toArray a.tmps j = yielded os.toArray a.tmps j := by
            unfold yielded
            have : (os ++ tl).toArray[j]? = os.toArray[j]? := by have := hget j hj; simpa using this
            rw [this]
          simp [Region.wanted, hg, hy]
      have hk : ∀ a w, wpAnyIn (FR n.ro) 0 P .any os.toArray Q' fuel (listed'.setIfInBounds i true) a w → wpAnyIn (FR n.ro) 0 P .any (os ++ tl).toArray Q (fuel + tl.length) (listed.setIfInBounds i true) a w := fun a w hh => by
        have hi3 : i < listed.size := by rw [hs]; simp; omega
        refine ih _ _ a w (by simpa using hs) (by simpa using hs') (fun j hj => ?_) (fun j hj hj2 => ?_) hh
        · rw [getD_set (by omega), getD_set hi3]
          by_cases e : i = j
          · subst e; simp
          · rw [if_neg e, if_neg e]; exact hl j hj
        · rw [getD_set hi3, if_neg (by omega)]
          exact htl j hj hj2
      simp only at h3 ⊢
      rw [hw]
      split
      · rename_i hwt
        rw [if_pos hwt] at h3
        exact op_mono2 hk hq h3
      · rename_i hwt
        rw [if_neg hwt] at h3
        exact ⟨h3.1, hk _ _ h3.2⟩
/-- What is to be shown behind the operations that are drawn: the last ones, in their row. -/
def tlQ (P : Program) (n : Cx) (ops : Array Oper) (tl : List Oper) (Q : Post) : Post
  | .normal, D, fr, l => WpL P n D ops tl Q fr l
  | e, D, fr, l => Q e D fr l
/-- The same, the drawn ones told in π's order. -/
theorem Wp.drawEP {id : Nat} {os : List Oper} (hm : P.follows .mixedOrders = true) (m : Nat) (π ds0 : List Nat) (N : Nat) (ss : List (Nat × Bool)) (ht : tailOk (os.take m).length (os.drop m) = true) (hlo : lowOk (os.take m) = true) (hπ : permOk (os.take m).length π = true) (hok : okG (permO (os.take m) π) (permO (os.take m) π).length 0 ss = true) (hds : (permO (os.take m) π).filterMap (·.dst) = ds0) (hN : (permO (os.take m) π).length = N)
    (go : GoR P n D (permO (os.take m) π).toArray (permO (os.take m) π) (Go.Proofs.YtggamdlpiejbiaaGreat.dropK ds0 fr) fB N 0 [] 0 (tlQ P n os.toArray (os.drop m) Q) ss 0 [] [] (Go.Proofs.YtggamdlpiejbiaaGreat.dropK ds0 fr) l) : Wp P n D (.region id os.toArray true) Q fr l := fun a w U hh hs => by
  have hp := permF hπ
  subst hds; subst hN
  have h0 := drawG_go (os := permO (os.take m) π) _ 0 [] 0 ss hok (fun o ho => by simp at ho) go a w U hh hs
  refine wpIn_region_any hm ?_
  have hos : os = os.take m ++ os.drop m := (List.take_append_drop _ _).symm
  generalize hQ : tlQ P n os.toArray (os.drop m) Q = Q' at h0
  generalize os.take m = o1 at *
  generalize os.drop m = tl at *
  subst hos
  simp only [List.size_toArray, hp.len] at h0
  have h := any_perm hp o1.length (Array.replicate o1.length false) _ a _ (by simp) (by simp) (fun i => by rw [getD_false, getD_false]) h0
  have hsz : (o1 ++ tl).toArray.size = o1.length + tl.length := by simp
  rw [hsz]
  refine any_tail ht hlo (Q' := After n Q' U w) (fun e a w hne hq => ?_) (fun a w1 hq => ?_) _ _ _ a _ (by simp) (by simp) (fun i hi => ?_) (fun i _ _ => ?_) h
  · obtain ⟨D', fr', l', q, hh', ho⟩ := hq
    subst hQ
    refine ⟨D', fr', l', ?_, hh', ho⟩
    cases e <;> first | exact absurd rfl hne | exact q
  · obtain ⟨D', fr', l', q, hh', ho⟩ := hq
    subst hQ
    exact WpL.go q hh' ho
  · rw [getD_false, getD_false]
  · exact getD_false
end
end Go.Proofs.YtggamdlpiejbiaaGreat
namespace Go.Proofs.YtggamdlpiejbiaaGreat
open Go.RowKit Go.Shelf


structure RrX where
  (y : Nat) (out : List (Evt × Int)) (aO : Option Addr) (cO : Nat)
theorem badR_le (K : Int) (W H : Nat) (M : Int) (R : List Int) : badR K W H M R ≤ R.length := by
  unfold badR
  split
  · omega
  · have hw := wideM_or M
    rcases badI_spec ((wideM M : Nat) : Int) M (smps (wideM M) (R.take (strd K W (wideM M) * H))) 0 with ⟨hz, _⟩ | ⟨j, hjl, _, _, hje⟩
    · omega
    · rw [smps_len, List.length_take] at hjl
      rw [hje]
      rcases hw with e | e <;> rw [e] at hjl ⊢ <;> push_cast <;> omega

set_option maxHeartbeats 2000000 in
theorem rraw_open (A0 : HP) (a0 : Option Addr) (c0 : Nat) (bs : List Int) (hA : RdsL [A0] a0 (u8s bs)) (hbs : ∀ x ∈ bs, 0 ≤ x ∧ x ≤ 255) (hc0 : bs.length ≤ c0) (hbl : bs.length ≤ 100000000000) (at0 : Nat) (hat : at0 ≤ bs.length) (h : HS) (hf : HdFine h) (hK : 4 ≤ h.K) (fin : Bool) : Fn Tryz.prog 59 #[.slice a0 bs.length c0, .int .i64 (at0 : Int), .agg #[.int .i64 h.K, .int .i64 ((h.W.toNat : Nat) : Int), .int .i64 ((h.H.toNat : Nat) : Int), .int .i64 h.M], .bool fin] [A0] (fun v l => ∃ a c out to f, (∀ l0 l1 l2 imgs, BodyOut l0 l1 l2 fin h (.rw (rw0 h)) bs at0 imgs out to f) ∧ ((at0 : Int) ≤ to ∧ to ≤ bs.length) ∧ (out.length : Int) ≤ to - at0 + 2 ∧ ((f = 0 → ∃ t rows, out = rows ++ [dnE t] ∧ ∀ x ∈ rows, evRw x) ∧ (f ≠ 0 → ∀ x ∈ out, evRw x)) ∧ v = .tuple #[.slice a out.length c, .int .i64 to, .int .i64 f] ∧ l = [esR a c out, A0]) := by
  have hM := hf.2.2
  have hM2 := hM
  unfold MayH at hM2
  have hWn : ((h.W.toNat : Nat) : Int) = h.W := by omega
  have hHn : ((h.H.toNat : Nat) : Int) = h.H := by omega
  have hR : RawH h.K ((h.W.toNat : Nat) : Int) ((h.H.toNat : Nat) : Int) h.M := by rw [hWn, hHn]; exact ⟨hM, hK⟩
  have hw := wideM_or h.M
  have hsb := strd_bd (K := h.K) (W := h.W.toNat) hw (by omega) (by omega)
  have hmb : ∀ y : Nat, y ≤ h.H.toNat → y * (strd h.K h.W.toNat (wideM h.M)) ≤ 65536 * 24576 := fun y hy => Nat.mul_le_mul (by omega) hsb.2
  have hAd : RdsL [A0] (sla a0 at0 c0 1) (u8s (bs.drop at0)) := by have q := hA.sla at0 bs.length c0 1 hc0; rwa [u8s_from] at q
  have hbd2 : ∀ x ∈ bs.drop at0, 0 ≤ x ∧ x ≤ 255 := fun x hx => hbs x (List.mem_of_mem_drop hx)
  have hble := badR_le h.K h.W.toNat h.H.toNat h.M (bs.drop at0)
  rw [List.length_drop] at hble
  obtain ⟨bad, hbad⟩ : ∃ bad, bad = (badR h.K h.W.toNat h.H.toNat h.M (bs.drop at0)) := ⟨_, rfl⟩
  rw [← hbad] at hble
  refine Fn.intro (vs := [.slice a0 bs.length c0, .int .i64 (at0 : Int), .agg #[.int .i64 h.K, .int .i64 ((h.W.toNat : Nat) : Int), .int .i64 ((h.H.toNat : Nat) : Int), .int .i64 h.M], .bool fin]) Tryz.func59 rfl Tryz.ntmps59 rfl ?_
  refine Wp.seq ?_
  refine Wp.region ?_
  refine s_box rfl rfl rfl ?_
  intro gB
  refine s_as rfl rfl ?_
  refine s_as rfl rfl ?_
  refine s_as rfl rfl ?_
  refine WpL.nil ?_
  refine Wp.seq ?_
  refine Wp.region ?_
  refine s_as rfl rfl ?_
  refine WpL.nil ?_
  refine Wp.seq ?_
  refine Wp.region ?_
  refine s_lda (vs := [_, _, _, _]) rfl rfl rfl (by rfl) ?_
  refine s_callf rfl rfl (by repeat' constructor) (rStride_spec h.K h.W.toNat h.H.toNat h.M hR) ?_
  rintro _ _ ⟨rfl, rfl⟩
  simp only [napp]
  refine s_as rfl rfl ?_
  refine WpL.nil ?_
  refine Wp.seq ?_
  apply Wp.draw mixed [⟨17, _, []⟩, ⟨18, _, []⟩, ⟨19, _, [0, 1]⟩, ⟨20, _, []⟩, ⟨21, _, [2, 3]⟩, ⟨13, _, [4, 0, 1, 2, 3]⟩] rfl
  · refine AllObs.mk ?_ ?_
    · refine s_mv rfl rfl ?_
      exact obN rfl
    refine AllObs.mk ?_ ?_
    · refine s_mv rfl rfl ?_
      exact obN rfl
    refine AllObs.mk ?_ ?_
    · refine s_sll_l (L := at0) rfl rfl rfl (by omega) hat ?_
      rw [show bs.length - at0 = (bs.drop at0).length from List.length_drop.symm]
      exact obN rfl
    refine AllObs.mk ?_ ?_
    · refine s_lda (vs := [_, _, _, _]) rfl rfl rfl (by rfl) ?_
      exact obN rfl
    refine AllObs.mk ?_ ?_
    · refine s_callf rfl rfl (by repeat' constructor) (rBad_spec A0 (sla a0 at0 c0 1) (c0 - at0) (bs.drop at0) hAd hbd2 (by rw [List.length_drop]; omega) (by rw [List.length_drop]; omega) h.K h.W.toNat h.H.toNat h.M hR) ?_
      rintro _ _ ⟨rfl, rfl⟩
      simp only [napp]
      rw [← hbad]
      exact WpL.nil ⟨rfl, rfl, rfl, by first | exact Ent.refl _ | exact Ent.nil _ | exact Take.ent' (by repeat' constructor) | (repeat (first | exact Ent.refl _ | refine Ent.drop ?_))⟩
    refine AllObs.mk ?_ ?_
    · refine s_as rfl rfl ?_
      exact obN rfl
    exact AllObs.nil
  · refine Wp.seq ?_
    refine Wp.seq ?_
    refine Wp.region ?_
    refine s_as rfl rfl ?_
    refine WpL.nil ?_
    refine Wp.block ?_
    refine Wp.loopD (σ := RrX) (fun x => x.y ≤ h.H.toNat ∧ at0 + x.y * (strd h.K h.W.toNat (wideM h.M)) ≤ bs.length ∧ x.out.length ≤ x.y ∧ (∀ z ∈ x.out, evRw z) ∧ (∀ l0 l1 l2 imgs, rwI l0 l1 l2 h bs at0 imgs x.y x.out) ∧ ¬ (bad > 0 ∧ bad ≤ ((x.y * (strd h.K h.W.toNat (wideM h.M)) : Nat) : Int))) [8, 9, 10, 11, 14, 22, 23, 24, 25, 26, 27, 28, 29, 30, 31, 32, 33, 34, 35, 36, 37, 38, 39, 40, 41, 42, 43, 44, 45, 46, 47, 48, 49, 50, 51, 52, 53, 54, 55, 56, 57, 58, 59, 60, 61, 62, 63, 64, 65, 66, 67, 68, 69, 70, 71, 72, 73, 74, 75, 76, 77, 78, 79, 80, 81, 82] (fun x => [(14, .int .i64 (x.y : Int)), (11, .slice x.aO x.out.length x.cO)]) (fun x => [blk gB [.int .i64 h.K, .int .i64 ((h.W.toNat : Nat) : Int), .int .i64 ((h.H.toNat : Nat) : Int), .int .i64 h.M] 113, esR x.aO x.cO x.out, A0]) (fun x => h.H.toNat - x.y) ⟨0, [], none, 0⟩ ?_ (by repeat (first | exact FrLe.nil | refine FrLe.cons rfl ?_)) ?_ ?_
    · exact ⟨Nat.zero_le _, by simp only; omega, Nat.le_refl _, fun z hz => by simp at hz, fun l0 l1 l2 imgs => rwI0 (by omega), by simp only [Nat.zero_mul]; omega⟩
    · refine Ent.trans (m := [blk gB _ _, A0]) (Take.ent' (by repeat' constructor)) (Ent.cons (Ent.rcNil (Ent.refl _)))
    · rintro ⟨y, out, aO, cO⟩ ⟨hy0, hya, hol, hkk, hI, hnb⟩
      dsimp only at hy0 hya hol hkk hI hnb ⊢
      have hmy := hmb y hy0
      have hyl : y ≤ y * (strd h.K h.W.toNat (wideM h.M)) := Nat.le_mul_of_pos_right _ (by omega)
      have hy1 : (y + 1) * (strd h.K h.W.toNat (wideM h.M)) = y * (strd h.K h.W.toNat (wideM h.M)) + (strd h.K h.W.toNat (wideM h.M)) := by rw [Nat.add_mul, Nat.one_mul]
      have hc1 : ((y : Int) + 1) * (((strd h.K h.W.toNat (wideM h.M)) : Nat) : Int) = (((y + 1) * (strd h.K h.W.toNat (wideM h.M)) : Nat) : Int) := by push_cast; rfl
      have hc0' : (y : Int) * (((strd h.K h.W.toNat (wideM h.M)) : Nat) : Int) = ((y * (strd h.K h.W.toNat (wideM h.M)) : Nat) : Int) := by push_cast; rfl
      refine Wp.seq ?_
      refine Wp.seq ?_
      refine Wp.region ?_
      refine s_mv rfl rfl ?_
      refine s_fa (o2 := 2) rfl rfl rfl ?_
      refine s_ld rfl rfl (by rfl) ?_
      refine s_lt rfl rfl rfl ?_
      refine WpL.nil ?_
      refine Wp.condD rfl (fun h1 => ?_) (fun h1 => ?_)
      · have hyH : (y : Int) < h.H := by omega
        have hm1 := hmb (y + 1) (by omega)
        refine Wp.skip ?_
        refine Wp.seq ?_
        refine Wp.block ?_
        refine Wp.seq ?_
        refine Wp.seq ?_
        refine Wp.region ?_
        refine s_mv rfl rfl ?_
        refine s_gt rfl rfl rfl ?_
        refine s_mv rfl rfl ?_
        refine WpL.grd rfl rfl rfl (fun hg1 => ?_) (fun hg1 => ?_)
        · have hg1 := of_decide_eq_true hg1
          refine s_mv rfl rfl ?_
          refine WpL.gon rfl rfl ?_
          refine s_mv rfl rfl ?_
          refine WpL.gon rfl rfl ?_
          first | refine s_add rfl rfl rfl (w_i64 (by omega) (by omega)) ?_ | refine s_addw rfl rfl rfl ?_
          refine WpL.gon rfl rfl ?_
          refine s_mv rfl rfl ?_
          refine WpL.gon rfl rfl ?_
          refine s_mul rfl rfl rfl (w_i64 (by rw [hc1]; omega) (by rw [hc1]; omega)) ?_
          rw [hc1]
          refine WpL.gon rfl rfl ?_
          refine s_le rfl rfl rfl ?_
          refine s_pickT rfl rfl rfl ?_
          refine WpL.nil ?_
          refine Wp.condD rfl (fun h2 => ?_) (fun h2 => ?_)
          · refine Wp.seq ?_
            refine Wp.region ?_
            refine s_mv rfl rfl ?_
            refine s_mv rfl rfl ?_
            refine s_mv rfl rfl ?_
            first | refine s_add rfl rfl rfl (w_i64 (by omega) (by omega)) ?_ | refine s_addw rfl rfl rfl ?_
            refine s_as rfl rfl ?_
            refine s_as rfl rfl ?_
            refine s_as rfl rfl ?_
            refine WpL.nil ?_
            refine Wp.ret ?_
            apply RetQ.mk
            · exact (Res.three rfl rfl rfl rfl)
            · exact ⟨_, _, out, (at0 + bad), 5, fun l0 l1 l2 imgs => (by have q := rw_bad' (fin := fin) hf (hI l0 l1 l2 imgs) hyH (by rw [← hbad]; omega) (by rw [← hbad]; omega) (by rw [← hbad]; omega); rw [← hbad] at q; exact q), ⟨by omega, by omega⟩, (by first | omega | (simp only [List.length_append, List.length_cons, List.length_nil]; omega)), ⟨fun q => absurd q (by decide), fun _ => hkk⟩, rfl, rfl⟩
            · first | exact Ent.refl _ | exact Ent.nil _ | exact Take.ent' (by repeat' constructor) | (repeat (first | exact Ent.refl _ | refine Ent.drop ?_))
          · have hnb2 : ¬ (bad > 0 ∧ bad ≤ (((y + 1) * (strd h.K h.W.toNat (wideM h.M)) : Nat) : Int)) := fun q => by omega
            refine Wp.skip ?_
            refine Wp.seq ?_
            refine Wp.seq ?_
            refine Wp.region ?_
            refine s_mv rfl rfl ?_
            refine s_mv rfl rfl ?_
            first | refine s_add rfl rfl rfl (w_i64 (by omega) (by omega)) ?_ | refine s_addw rfl rfl rfl ?_
            refine s_mv rfl rfl ?_
            refine s_mul rfl rfl rfl (w_i64 (by rw [hc1]; omega) (by rw [hc1]; omega)) ?_
            rw [hc1]
            first | refine s_add rfl rfl rfl (w_i64 (by omega) (by omega)) ?_ | refine s_addw rfl rfl rfl ?_
            refine s_mv rfl rfl ?_
            refine s_lenl rfl rfl ?_
            refine s_gt rfl rfl rfl ?_
            refine WpL.nil ?_
            refine Wp.condD rfl (fun h3 => ?_) (fun h3 => ?_)
            · refine Wp.seq ?_
              refine Wp.seq ?_
              refine Wp.region ?_
              refine s_mv rfl rfl ?_
              refine WpL.nil ?_
              refine Wp.cond rfl (fun h4 => ?_) (fun h4 => ?_)
              · refine Wp.seq ?_
                refine Wp.region ?_
                refine s_mv rfl rfl ?_
                refine s_mv rfl rfl ?_
                refine s_lenl rfl rfl ?_
                refine s_as rfl rfl ?_
                refine s_as rfl rfl ?_
                refine s_as rfl rfl ?_
                refine WpL.nil ?_
                refine Wp.ret ?_
                apply RetQ.mk
                · exact (Res.three rfl rfl rfl rfl)
                · exact ⟨_, _, out, bs.length, 6, fun l0 l1 l2 imgs => (by have q := rw_short (fin := fin) hf (hI l0 l1 l2 imgs) hyH hya (by rw [← hbad]; exact hnb2) (by omega); rw [if_pos h4] at q; exact q), ⟨by omega, by omega⟩, (by first | omega | (simp only [List.length_append, List.length_cons, List.length_nil]; omega)), ⟨fun q => absurd q (by decide), fun _ => hkk⟩, rfl, rfl⟩
                · first | exact Ent.refl _ | exact Ent.nil _ | exact Take.ent' (by repeat' constructor) | (repeat (first | exact Ent.refl _ | refine Ent.drop ?_))
              · refine Wp.skip ?_
                refine Wp.seq ?_
                refine Wp.region ?_
                refine s_mv rfl rfl ?_
                refine s_mv rfl rfl ?_
                refine s_lenl rfl rfl ?_
                refine s_as rfl rfl ?_
                refine s_as rfl rfl ?_
                refine s_as rfl rfl ?_
                refine WpL.nil ?_
                refine Wp.ret ?_
                apply RetQ.mk
                · exact (Res.three rfl rfl rfl rfl)
                · exact ⟨_, _, out, bs.length, 9, fun l0 l1 l2 imgs => (by have q := rw_short (fin := fin) hf (hI l0 l1 l2 imgs) hyH hya (by rw [← hbad]; exact hnb2) (by omega); rw [if_neg (by rw [h4]; decide)] at q; exact q), ⟨by omega, by omega⟩, (by first | omega | (simp only [List.length_append, List.length_cons, List.length_nil]; omega)), ⟨fun q => absurd q (by decide), fun _ => hkk⟩, rfl, rfl⟩
                · first | exact Ent.refl _ | exact Ent.nil _ | exact Take.ent' (by repeat' constructor) | (repeat (first | exact Ent.refl _ | refine Ent.drop ?_))
            · have hle : at0 + (y + 1) * (strd h.K h.W.toNat (wideM h.M)) ≤ bs.length := by omega
              have hHL : at0 + (y + 1) * (strd h.K h.W.toNat (wideM h.M)) - (at0 + y * (strd h.K h.W.toNat (wideM h.M))) = (strd h.K h.W.toNat (wideM h.M)) := by omega
              have hrlen : ((bs.drop (at0 + y * (strd h.K h.W.toNat (wideM h.M)))).take (strd h.K h.W.toNat (wideM h.M))).length = (strd h.K h.W.toNat (wideM h.M)) := by rw [List.length_take, List.length_drop]; omega
              have hAr : RdsL [A0] (sla a0 (at0 + y * (strd h.K h.W.toNat (wideM h.M))) c0 1) (u8s ((bs.drop (at0 + y * (strd h.K h.W.toNat (wideM h.M)))).take (strd h.K h.W.toNat (wideM h.M)))) := by have q := hA.sla (at0 + y * (strd h.K h.W.toNat (wideM h.M))) (at0 + (y + 1) * (strd h.K h.W.toNat (wideM h.M))) c0 1 (by omega); rwa [u8s_sub, hHL] at q
              have hbr : ∀ x ∈ ((bs.drop (at0 + y * (strd h.K h.W.toNat (wideM h.M)))).take (strd h.K h.W.toNat (wideM h.M))), 0 ≤ x ∧ x ≤ 255 := fun x hx => hbs x (List.mem_of_mem_drop (List.mem_of_mem_take hx))
              refine Wp.skip ?_
              apply Wp.drawEP (fB := []) mixed 25 [0, 1, 2, 3, 4, 5, 6, 7, 8, 9, 10, 11, 12, 13, 14, 16, 17, 18, 19, 20, 21, 15, 22, 23, 24] [58, 59, 60, 61, 62, 63, 64, 65, 66, 67, 68, 69, 70, 71, 72, 74, 75, 76, 77, 78, 79, 73, 80, 81, 82] 25 [(21, false), (1, false), (0, false)] (by kernel_rfl) (by kernel_rfl) (by kernel_rfl) (by kernel_rfl) (by kernel_rfl) (by kernel_rfl)
              apply GoR.segFP [⟨0, 58, _, [], true⟩, ⟨1, 59, _, [], false⟩, ⟨2, 60, _, [], false⟩, ⟨3, 61, _, [], false⟩, ⟨4, 62, _, [], false⟩, ⟨5, 63, _, [3, 4], false⟩, ⟨6, 64, _, [2, 5], false⟩, ⟨7, 65, _, [], false⟩, ⟨8, 66, _, [], false⟩, ⟨9, 67, _, [8], false⟩, ⟨10, 68, _, [], false⟩, ⟨11, 69, _, [9, 10], false⟩, ⟨12, 70, _, [7, 11], false⟩, ⟨13, 71, _, [1, 6, 12], false⟩, ⟨14, 72, _, [], false⟩, ⟨15, 74, _, [], true⟩, ⟨16, 75, _, [], true⟩, ⟨17, 76, _, [16], true⟩, ⟨18, 77, _, [], true⟩, ⟨19, 78, _, [17, 18], true⟩, ⟨20, 79, _, [15, 19], true⟩] [] [1, 2, 3, 4, 5, 6, 7, 8, 9, 10, 11, 12, 13, 14] [80, 81, 82] [80, 81, 82, 58, 74, 75, 76, 77, 78, 79] (.inl ⟨_, .nil⟩) rfl rfl rfl (by kernel_rfl) rfl (by kernel_rfl) rfl rfl
              · refine AllF.consPR 0 [] rfl rfl rfl rfl (by kernel_rfl) rfl ?_ ?_
                · refine s_mv rfl rfl ?_
                  exact obN rfl
                refine AllF.consP 1 [] rfl rfl rfl rfl (by kernel_rfl) rfl ?_ ?_
                · refine s_mv rfl rfl ?_
                  exact obN rfl
                refine AllF.consP 2 [] rfl rfl rfl rfl (by kernel_rfl) rfl ?_ ?_
                · refine s_mv rfl rfl ?_
                  exact obN rfl
                refine AllF.consP 3 [] rfl rfl rfl rfl (by kernel_rfl) rfl ?_ ?_
                · refine s_mv rfl rfl ?_
                  exact obN rfl
                refine AllF.consP 4 [] rfl rfl rfl rfl (by kernel_rfl) rfl ?_ ?_
                · refine s_mv rfl rfl ?_
                  exact obN rfl
                refine AllF.consP 5 [3, 4] rfl rfl rfl rfl (by kernel_rfl) rfl ?_ ?_
                · refine s_mul rfl rfl rfl (w_i64 (by rw [hc0']; omega) (by rw [hc0']; omega)) ?_
                  rw [hc0']
                  exact obN rfl
                refine AllF.consP 6 [2, 5] rfl rfl rfl rfl (by kernel_rfl) rfl ?_ ?_
                · first | refine s_add rfl rfl rfl (w_i64 (by omega) (by omega)) ?_ | refine s_addw rfl rfl rfl ?_
                  exact obN rfl
                refine AllF.consP 7 [] rfl rfl rfl rfl (by kernel_rfl) rfl ?_ ?_
                · refine s_mv rfl rfl ?_
                  exact obN rfl
                refine AllF.consP 8 [] rfl rfl rfl rfl (by kernel_rfl) rfl ?_ ?_
                · refine s_mv rfl rfl ?_
                  exact obN rfl
                refine AllF.consP 9 [8] rfl rfl rfl rfl (by kernel_rfl) rfl ?_ ?_
                · first | refine s_add rfl rfl rfl (w_i64 (by omega) (by omega)) ?_ | refine s_addw rfl rfl rfl ?_
                  exact obN rfl
                refine AllF.consP 10 [] rfl rfl rfl rfl (by kernel_rfl) rfl ?_ ?_
                · refine s_mv rfl rfl ?_
                  exact obN rfl
                refine AllF.consP 11 [9, 10] rfl rfl rfl rfl (by kernel_rfl) rfl ?_ ?_
                · refine s_mul rfl rfl rfl (w_i64 (by rw [hc1]; omega) (by rw [hc1]; omega)) ?_
                  rw [hc1]
                  exact obN rfl
                refine AllF.consP 12 [7, 11] rfl rfl rfl rfl (by kernel_rfl) rfl ?_ ?_
                · first | refine s_add rfl rfl rfl (w_i64 (by omega) (by omega)) ?_ | refine s_addw rfl rfl rfl ?_
                  exact obN rfl
                refine AllF.consP 13 [1, 6, 12] rfl rfl rfl rfl (by kernel_rfl) rfl ?_ ?_
                · refine s_sll_lh (L := (at0 + y * (strd h.K h.W.toNat (wideM h.M)))) (H := (at0 + (y + 1) * (strd h.K h.W.toNat (wideM h.M)))) rfl rfl rfl rfl (by push_cast; omega) (by push_cast; omega) (by omega) (by omega) ?_
                  rw [show at0 + (y + 1) * (strd h.K h.W.toNat (wideM h.M)) - (at0 + y * (strd h.K h.W.toNat (wideM h.M))) = ((bs.drop (at0 + y * (strd h.K h.W.toNat (wideM h.M)))).take (strd h.K h.W.toNat (wideM h.M))).length from hHL.trans hrlen.symm]
                  exact obN rfl
                refine AllF.consP 14 [] rfl rfl rfl rfl (by kernel_rfl) rfl ?_ ?_
                · refine s_lda (vs := [_, _, _, _]) rfl rfl rfl (by rfl) ?_
                  exact obN rfl
                refine AllF.consPR 15 [] rfl rfl rfl rfl (by kernel_rfl) rfl ?_ ?_
                · refine s_mv rfl rfl ?_
                  exact obN rfl
                refine AllF.consPR 16 [] rfl rfl rfl rfl (by kernel_rfl) rfl ?_ ?_
                · refine s_mv rfl rfl ?_
                  exact obN rfl
                refine AllF.consPR 17 [16] rfl rfl rfl rfl (by kernel_rfl) rfl ?_ ?_
                · first | refine s_add rfl rfl rfl (w_i64 (by omega) (by omega)) ?_ | refine s_addw rfl rfl rfl ?_
                  exact obN rfl
                refine AllF.consPR 18 [] rfl rfl rfl rfl (by kernel_rfl) rfl ?_ ?_
                · refine s_mv rfl rfl ?_
                  exact obN rfl
                refine AllF.consPR 19 [17, 18] rfl rfl rfl rfl (by kernel_rfl) rfl ?_ ?_
                · refine s_mul rfl rfl rfl (w_i64 (by rw [hc1]; omega) (by rw [hc1]; omega)) ?_
                  rw [hc1]
                  exact obN rfl
                refine AllF.consPR 20 [15, 19] rfl rfl rfl rfl (by kernel_rfl) rfl ?_ ?_
                · first | refine s_add rfl rfl rfl (w_i64 (by omega) (by omega)) ?_ | refine s_addw rfl rfl rfl ?_
                  exact obN rfl
                exact AllF.nil
              · refine s_callf rfl rfl (by repeat' constructor) (rRow_spec A0 (sla a0 (at0 + y * (strd h.K h.W.toNat (wideM h.M))) c0 1) (c0 - (at0 + y * (strd h.K h.W.toNat (wideM h.M)))) ((bs.drop (at0 + y * (strd h.K h.W.toNat (wideM h.M)))).take (strd h.K h.W.toNat (wideM h.M))) hAr hbr (by rw [hrlen]; omega) (by rw [hrlen]; omega) h.K h.W.toNat h.H.toNat h.M hR hrlen) ?_
                rintro _ _ ⟨rr, a3, c3, hrr, rfl, rfl⟩
                simp only [napp]
                have hwr : rr.length ≤ 4096 := by rw [hrr, rowD_len hw hrlen]; omega
                refine WpL.nil ⟨rfl, rfl, ?_⟩
                apply GoR.segFP [⟨22, 80, _, [20, 21], false⟩] [0, 15, 16, 17, 18, 19, 20] [15, 16, 17, 18, 19, 20, 22] [82] [82, 58] (.inl ⟨_, .nil⟩) rfl rfl rfl (by kernel_rfl) rfl (by kernel_rfl) rfl rfl
                · refine AllF.consP 22 [20, 21] rfl rfl rfl rfl (by kernel_rfl) rfl ?_ ?_
                  · refine s_bd rfl rfl ?_
                    exact obN rfl
                  exact AllF.nil
                · refine s_bsA1 rfl rfl (by rfl) (by rfl) (by rfl) (by rfl) ?_
                  intro g2
                  refine WpL.nil ⟨rfl, rfl, ?_⟩
                  apply GoR.segFP [] [0] [0] [] [] (.inl ⟨_, .nil⟩) rfl rfl rfl (by kernel_rfl) rfl (by kernel_rfl) rfl rfl
                  · exact AllF.nil
                  · refine s_apR1 ((⟨2, 0, 0, 0, 0, rr⟩, ((at0 + (y + 1) * (strd h.K h.W.toNat (wideM h.M)) : Nat) : Int))) rfl rfl rfl (by repeat' constructor) rfl (by rfl) (by rfl) (by rfl) (by rfl) (by first | omega | (simp only [List.length_append, List.length_cons, List.length_nil]; omega)) (by first | omega | (simp only [List.length_append, List.length_cons, List.length_nil]; omega)) ?_
                    intro a82 c82
                    refine WpL.nil ⟨rfl, rfl, ?_⟩
                    apply GoR.nilP [] 25 (by kernel_rfl) (.inr rfl) rfl rfl
                    · exact AllF.nil
                    · show WpL _ _ _ _ _ _ _ _
                      refine s_as rfl rfl ?_
                      refine WpL.nil ?_
                      refine Wp.region ?_
                      refine s_mv rfl rfl ?_
                      first | refine s_add rfl rfl rfl (w_i64 (by omega) (by omega)) ?_ | refine s_addw rfl rfl rfl ?_
                      refine s_as rfl rfl ?_
                      refine WpL.nil ?_
                      refine loopD.next (⟨y + 1, out ++ [(⟨2, 0, 0, 0, 0, rr⟩, ((at0 + (y + 1) * (strd h.K h.W.toNat (wideM h.M)) : Nat) : Int))], a82, c82⟩ : RrX) ?_ ?_ (by first | ((repeat (first | exact Top.refl | refine Top.push rfl ?_ | refine Top.drop rfl ?_)); done) | exact Top.le (by repeat (first | exact FrLe.nil | refine FrLe.cons rfl ?_))) (by repeat (first | exact FrLe.nil | refine FrLe.cons rfl ?_)) ?_
                      · exact ⟨by simp only; omega, by simp only; omega, by simp only [List.length_append, List.length_cons, List.length_nil]; omega, fun x hx => by rcases List.mem_append.1 hx with hx | hx; exact hkk x hx; rw [List.mem_singleton.1 hx]; exact ⟨rfl, hwr⟩, fun l0 l1 l2 imgs => by have q := rw_row hf (hI l0 l1 l2 imgs) hyH (by rw [← hbad]; exact hnb2) (by omega); rw [← hrr] at q; exact q, by simp only; exact hnb2⟩
                      · simp only; omega
                      · first | exact Ent.refl _ | exact Ent.nil _ | exact Take.ent' (by repeat' constructor) | (repeat (first | exact Ent.refl _ | refine Ent.drop ?_))
        · have hg1 := of_decide_eq_false hg1
          have hnb2 : ¬ (bad > 0 ∧ bad ≤ (((y + 1) * (strd h.K h.W.toNat (wideM h.M)) : Nat) : Int)) := fun q => by omega
          refine WpL.goff rfl rfl rfl (by decide) ?_
          refine WpL.goff rfl rfl rfl (by decide) ?_
          refine WpL.goff rfl rfl rfl (by decide) ?_
          refine WpL.goff rfl rfl rfl (by decide) ?_
          refine WpL.goff rfl rfl rfl (by decide) ?_
          refine s_pickF rfl rfl rfl ?_
          refine WpL.nil ?_
          refine Wp.condF rfl ?_
          refine Wp.skip ?_
          refine Wp.seq ?_
          refine Wp.seq ?_
          refine Wp.region ?_
          refine s_mv rfl rfl ?_
          refine s_mv rfl rfl ?_
          first | refine s_add rfl rfl rfl (w_i64 (by omega) (by omega)) ?_ | refine s_addw rfl rfl rfl ?_
          refine s_mv rfl rfl ?_
          refine s_mul rfl rfl rfl (w_i64 (by rw [hc1]; omega) (by rw [hc1]; omega)) ?_
          rw [hc1]
          first | refine s_add rfl rfl rfl (w_i64 (by omega) (by omega)) ?_ | refine s_addw rfl rfl rfl ?_
          refine s_mv rfl rfl ?_
          refine s_lenl rfl rfl ?_
          refine s_gt rfl rfl rfl ?_
          refine WpL.nil ?_
          refine Wp.condD rfl (fun h3 => ?_) (fun h3 => ?_)
          · refine Wp.seq ?_
            refine Wp.seq ?_
            refine Wp.region ?_
            refine s_mv rfl rfl ?_
            refine WpL.nil ?_
            refine Wp.cond rfl (fun h4 => ?_) (fun h4 => ?_)
            · refine Wp.seq ?_
              refine Wp.region ?_
              refine s_mv rfl rfl ?_
              refine s_mv rfl rfl ?_
              refine s_lenl rfl rfl ?_
              refine s_as rfl rfl ?_
              refine s_as rfl rfl ?_
              refine s_as rfl rfl ?_
              refine WpL.nil ?_
              refine Wp.ret ?_
              apply RetQ.mk
              · exact (Res.three rfl rfl rfl rfl)
              · exact ⟨_, _, out, bs.length, 6, fun l0 l1 l2 imgs => (by have q := rw_short (fin := fin) hf (hI l0 l1 l2 imgs) hyH hya (by rw [← hbad]; exact hnb2) (by omega); rw [if_pos h4] at q; exact q), ⟨by omega, by omega⟩, (by first | omega | (simp only [List.length_append, List.length_cons, List.length_nil]; omega)), ⟨fun q => absurd q (by decide), fun _ => hkk⟩, rfl, rfl⟩
              · first | exact Ent.refl _ | exact Ent.nil _ | exact Take.ent' (by repeat' constructor) | (repeat (first | exact Ent.refl _ | refine Ent.drop ?_))
            · refine Wp.skip ?_
              refine Wp.seq ?_
              refine Wp.region ?_
              refine s_mv rfl rfl ?_
              refine s_mv rfl rfl ?_
              refine s_lenl rfl rfl ?_
              refine s_as rfl rfl ?_
              refine s_as rfl rfl ?_
              refine s_as rfl rfl ?_
              refine WpL.nil ?_
              refine Wp.ret ?_
              apply RetQ.mk
              · exact (Res.three rfl rfl rfl rfl)
              · exact ⟨_, _, out, bs.length, 9, fun l0 l1 l2 imgs => (by have q := rw_short (fin := fin) hf (hI l0 l1 l2 imgs) hyH hya (by rw [← hbad]; exact hnb2) (by omega); rw [if_neg (by rw [h4]; decide)] at q; exact q), ⟨by omega, by omega⟩, (by first | omega | (simp only [List.length_append, List.length_cons, List.length_nil]; omega)), ⟨fun q => absurd q (by decide), fun _ => hkk⟩, rfl, rfl⟩
              · first | exact Ent.refl _ | exact Ent.nil _ | exact Take.ent' (by repeat' constructor) | (repeat (first | exact Ent.refl _ | refine Ent.drop ?_))
          · have hle : at0 + (y + 1) * (strd h.K h.W.toNat (wideM h.M)) ≤ bs.length := by omega
            have hHL : at0 + (y + 1) * (strd h.K h.W.toNat (wideM h.M)) - (at0 + y * (strd h.K h.W.toNat (wideM h.M))) = (strd h.K h.W.toNat (wideM h.M)) := by omega
            have hrlen : ((bs.drop (at0 + y * (strd h.K h.W.toNat (wideM h.M)))).take (strd h.K h.W.toNat (wideM h.M))).length = (strd h.K h.W.toNat (wideM h.M)) := by rw [List.length_take, List.length_drop]; omega
            have hAr : RdsL [A0] (sla a0 (at0 + y * (strd h.K h.W.toNat (wideM h.M))) c0 1) (u8s ((bs.drop (at0 + y * (strd h.K h.W.toNat (wideM h.M)))).take (strd h.K h.W.toNat (wideM h.M)))) := by have q := hA.sla (at0 + y * (strd h.K h.W.toNat (wideM h.M))) (at0 + (y + 1) * (strd h.K h.W.toNat (wideM h.M))) c0 1 (by omega); rwa [u8s_sub, hHL] at q
            have hbr : ∀ x ∈ ((bs.drop (at0 + y * (strd h.K h.W.toNat (wideM h.M)))).take (strd h.K h.W.toNat (wideM h.M))), 0 ≤ x ∧ x ≤ 255 := fun x hx => hbs x (List.mem_of_mem_drop (List.mem_of_mem_take hx))
            refine Wp.skip ?_
            apply Wp.drawEP (fB := []) mixed 25 [0, 1, 2, 3, 4, 5, 6, 7, 8, 9, 10, 11, 12, 13, 14, 16, 17, 18, 19, 20, 21, 15, 22, 23, 24] [58, 59, 60, 61, 62, 63, 64, 65, 66, 67, 68, 69, 70, 71, 72, 74, 75, 76, 77, 78, 79, 73, 80, 81, 82] 25 [(21, false), (1, false), (0, false)] (by kernel_rfl) (by kernel_rfl) (by kernel_rfl) (by kernel_rfl) (by kernel_rfl) (by kernel_rfl)
            apply GoR.segFP [⟨0, 58, _, [], true⟩, ⟨1, 59, _, [], false⟩, ⟨2, 60, _, [], false⟩, ⟨3, 61, _, [], false⟩, ⟨4, 62, _, [], false⟩, ⟨5, 63, _, [3, 4], false⟩, ⟨6, 64, _, [2, 5], false⟩, ⟨7, 65, _, [], false⟩, ⟨8, 66, _, [], false⟩, ⟨9, 67, _, [8], false⟩, ⟨10, 68, _, [], false⟩, ⟨11, 69, _, [9, 10], false⟩, ⟨12, 70, _, [7, 11], false⟩, ⟨13, 71, _, [1, 6, 12], false⟩, ⟨14, 72, _, [], false⟩, ⟨15, 74, _, [], true⟩, ⟨16, 75, _, [], true⟩, ⟨17, 76, _, [16], true⟩, ⟨18, 77, _, [], true⟩, ⟨19, 78, _, [17, 18], true⟩, ⟨20, 79, _, [15, 19], true⟩] [] [1, 2, 3, 4, 5, 6, 7, 8, 9, 10, 11, 12, 13, 14] [80, 81, 82] [80, 81, 82, 58, 74, 75, 76, 77, 78, 79] (.inl ⟨_, .nil⟩) rfl rfl rfl (by kernel_rfl) rfl (by kernel_rfl) rfl rfl
            · refine AllF.consPR 0 [] rfl rfl rfl rfl (by kernel_rfl) rfl ?_ ?_
              · refine s_mv rfl rfl ?_
                exact obN rfl
              refine AllF.consP 1 [] rfl rfl rfl rfl (by kernel_rfl) rfl ?_ ?_
              · refine s_mv rfl rfl ?_
                exact obN rfl
              refine AllF.consP 2 [] rfl rfl rfl rfl (by kernel_rfl) rfl ?_ ?_
              · refine s_mv rfl rfl ?_
                exact obN rfl
              refine AllF.consP 3 [] rfl rfl rfl rfl (by kernel_rfl) rfl ?_ ?_
              · refine s_mv rfl rfl ?_
                exact obN rfl
              refine AllF.consP 4 [] rfl rfl rfl rfl (by kernel_rfl) rfl ?_ ?_
              · refine s_mv rfl rfl ?_
                exact obN rfl
              refine AllF.consP 5 [3, 4] rfl rfl rfl rfl (by kernel_rfl) rfl ?_ ?_
              · refine s_mul rfl rfl rfl (w_i64 (by rw [hc0']; omega) (by rw [hc0']; omega)) ?_
                rw [hc0']
                exact obN rfl
              refine AllF.consP 6 [2, 5] rfl rfl rfl rfl (by kernel_rfl) rfl ?_ ?_
              · first | refine s_add rfl rfl rfl (w_i64 (by omega) (by omega)) ?_ | refine s_addw rfl rfl rfl ?_
                exact obN rfl
              refine AllF.consP 7 [] rfl rfl rfl rfl (by kernel_rfl) rfl ?_ ?_
              · refine s_mv rfl rfl ?_
                exact obN rfl
              refine AllF.consP 8 [] rfl rfl rfl rfl (by kernel_rfl) rfl ?_ ?_
              · refine s_mv rfl rfl ?_
                exact obN rfl
              refine AllF.consP 9 [8] rfl rfl rfl rfl (by kernel_rfl) rfl ?_ ?_
              · first | refine s_add rfl rfl rfl (w_i64 (by omega) (by omega)) ?_ | refine s_addw rfl rfl rfl ?_
                exact obN rfl
              refine AllF.consP 10 [] rfl rfl rfl rfl (by kernel_rfl) rfl ?_ ?_
              · refine s_mv rfl rfl ?_
                exact obN rfl
              refine AllF.consP 11 [9, 10] rfl rfl rfl rfl (by kernel_rfl) rfl ?_ ?_
              · refine s_mul rfl rfl rfl (w_i64 (by rw [hc1]; omega) (by rw [hc1]; omega)) ?_
                rw [hc1]
                exact obN rfl
              refine AllF.consP 12 [7, 11] rfl rfl rfl rfl (by kernel_rfl) rfl ?_ ?_
              · first | refine s_add rfl rfl rfl (w_i64 (by omega) (by omega)) ?_ | refine s_addw rfl rfl rfl ?_
                exact obN rfl
              refine AllF.consP 13 [1, 6, 12] rfl rfl rfl rfl (by kernel_rfl) rfl ?_ ?_
              · refine s_sll_lh (L := (at0 + y * (strd h.K h.W.toNat (wideM h.M)))) (H := (at0 + (y + 1) * (strd h.K h.W.toNat (wideM h.M)))) rfl rfl rfl rfl (by push_cast; omega) (by push_cast; omega) (by omega) (by omega) ?_
                rw [show at0 + (y + 1) * (strd h.K h.W.toNat (wideM h.M)) - (at0 + y * (strd h.K h.W.toNat (wideM h.M))) = ((bs.drop (at0 + y * (strd h.K h.W.toNat (wideM h.M)))).take (strd h.K h.W.toNat (wideM h.M))).length from hHL.trans hrlen.symm]
                exact obN rfl
              refine AllF.consP 14 [] rfl rfl rfl rfl (by kernel_rfl) rfl ?_ ?_
              · refine s_lda (vs := [_, _, _, _]) rfl rfl rfl (by rfl) ?_
                exact obN rfl
              refine AllF.consPR 15 [] rfl rfl rfl rfl (by kernel_rfl) rfl ?_ ?_
              · refine s_mv rfl rfl ?_
                exact obN rfl
              refine AllF.consPR 16 [] rfl rfl rfl rfl (by kernel_rfl) rfl ?_ ?_
              · refine s_mv rfl rfl ?_
                exact obN rfl
              refine AllF.consPR 17 [16] rfl rfl rfl rfl (by kernel_rfl) rfl ?_ ?_
              · first | refine s_add rfl rfl rfl (w_i64 (by omega) (by omega)) ?_ | refine s_addw rfl rfl rfl ?_
                exact obN rfl
              refine AllF.consPR 18 [] rfl rfl rfl rfl (by kernel_rfl) rfl ?_ ?_
              · refine s_mv rfl rfl ?_
                exact obN rfl
              refine AllF.consPR 19 [17, 18] rfl rfl rfl rfl (by kernel_rfl) rfl ?_ ?_
              · refine s_mul rfl rfl rfl (w_i64 (by rw [hc1]; omega) (by rw [hc1]; omega)) ?_
                rw [hc1]
                exact obN rfl
              refine AllF.consPR 20 [15, 19] rfl rfl rfl rfl (by kernel_rfl) rfl ?_ ?_
              · first | refine s_add rfl rfl rfl (w_i64 (by omega) (by omega)) ?_ | refine s_addw rfl rfl rfl ?_
                exact obN rfl
              exact AllF.nil
            · refine s_callf rfl rfl (by repeat' constructor) (rRow_spec A0 (sla a0 (at0 + y * (strd h.K h.W.toNat (wideM h.M))) c0 1) (c0 - (at0 + y * (strd h.K h.W.toNat (wideM h.M)))) ((bs.drop (at0 + y * (strd h.K h.W.toNat (wideM h.M)))).take (strd h.K h.W.toNat (wideM h.M))) hAr hbr (by rw [hrlen]; omega) (by rw [hrlen]; omega) h.K h.W.toNat h.H.toNat h.M hR hrlen) ?_
              rintro _ _ ⟨rr, a3, c3, hrr, rfl, rfl⟩
              simp only [napp]
              have hwr : rr.length ≤ 4096 := by rw [hrr, rowD_len hw hrlen]; omega
              refine WpL.nil ⟨rfl, rfl, ?_⟩
              apply GoR.segFP [⟨22, 80, _, [20, 21], false⟩] [0, 15, 16, 17, 18, 19, 20] [15, 16, 17, 18, 19, 20, 22] [82] [82, 58] (.inl ⟨_, .nil⟩) rfl rfl rfl (by kernel_rfl) rfl (by kernel_rfl) rfl rfl
              · refine AllF.consP 22 [20, 21] rfl rfl rfl rfl (by kernel_rfl) rfl ?_ ?_
                · refine s_bd rfl rfl ?_
                  exact obN rfl
                exact AllF.nil
              · refine s_bsA1 rfl rfl (by rfl) (by rfl) (by rfl) (by rfl) ?_
                intro g3
                refine WpL.nil ⟨rfl, rfl, ?_⟩
                apply GoR.segFP [] [0] [0] [] [] (.inl ⟨_, .nil⟩) rfl rfl rfl (by kernel_rfl) rfl (by kernel_rfl) rfl rfl
                · exact AllF.nil
                · refine s_apR1 ((⟨2, 0, 0, 0, 0, rr⟩, ((at0 + (y + 1) * (strd h.K h.W.toNat (wideM h.M)) : Nat) : Int))) rfl rfl rfl (by repeat' constructor) rfl (by rfl) (by rfl) (by rfl) (by rfl) (by first | omega | (simp only [List.length_append, List.length_cons, List.length_nil]; omega)) (by first | omega | (simp only [List.length_append, List.length_cons, List.length_nil]; omega)) ?_
                  intro a82 c82
                  refine WpL.nil ⟨rfl, rfl, ?_⟩
                  apply GoR.nilP [] 25 (by kernel_rfl) (.inr rfl) rfl rfl
                  · exact AllF.nil
                  · show WpL _ _ _ _ _ _ _ _
                    refine s_as rfl rfl ?_
                    refine WpL.nil ?_
                    refine Wp.region ?_
                    refine s_mv rfl rfl ?_
                    first | refine s_add rfl rfl rfl (w_i64 (by omega) (by omega)) ?_ | refine s_addw rfl rfl rfl ?_
                    refine s_as rfl rfl ?_
                    refine WpL.nil ?_
                    refine loopD.next (⟨y + 1, out ++ [(⟨2, 0, 0, 0, 0, rr⟩, ((at0 + (y + 1) * (strd h.K h.W.toNat (wideM h.M)) : Nat) : Int))], a82, c82⟩ : RrX) ?_ ?_ (by first | ((repeat (first | exact Top.refl | refine Top.push rfl ?_ | refine Top.drop rfl ?_)); done) | exact Top.le (by repeat (first | exact FrLe.nil | refine FrLe.cons rfl ?_))) (by repeat (first | exact FrLe.nil | refine FrLe.cons rfl ?_)) ?_
                    · exact ⟨by simp only; omega, by simp only; omega, by simp only [List.length_append, List.length_cons, List.length_nil]; omega, fun x hx => by rcases List.mem_append.1 hx with hx | hx; exact hkk x hx; rw [List.mem_singleton.1 hx]; exact ⟨rfl, hwr⟩, fun l0 l1 l2 imgs => by have q := rw_row hf (hI l0 l1 l2 imgs) hyH (by rw [← hbad]; exact hnb2) (by omega); rw [← hrr] at q; exact q, by simp only; exact hnb2⟩
                    · simp only; omega
                    · first | exact Ent.refl _ | exact Ent.nil _ | exact Take.ent' (by repeat' constructor) | (repeat (first | exact Ent.refl _ | refine Ent.drop ?_))
      · have hyH2 : y = h.H.toNat := by omega
        have hnH : (((strd h.K h.W.toNat (wideM h.M)) : Nat) : Int) * ((h.H.toNat : Nat) : Int) = ((y * (strd h.K h.W.toNat (wideM h.M)) : Nat) : Int) := by rw [← hyH2, Nat.mul_comm]; push_cast; rfl
        refine Wp.exit ?_
        refine Wp.seq ?_
        apply Wp.drawP (fB := [blk gB [.int .i64 h.K, .int .i64 ((h.W.toNat : Nat) : Int), .int .i64 ((h.H.toNat : Nat) : Int), .int .i64 h.M] 113]) [0, 1, 2, 3, 4, 5, 6, 7, 10, 11, 12, 13, 14, 15, 8, 9, 16, 17, 18] [83, 84, 85, 86, 87, 88, 89, 90, 93, 94, 95, 96, 97, 98, 91, 92, 8, 9, 10] 19 mixed (by kernel_rfl) [(14, false), (0, false)] (by kernel_rfl) (by kernel_rfl) (by kernel_rfl)
        apply GoR.segFP [⟨0, 83, _, [], true⟩, ⟨1, 84, _, [], false⟩, ⟨2, 85, _, [], false⟩, ⟨3, 86, _, [], false⟩, ⟨4, 87, _, [3], false⟩, ⟨5, 88, _, [2, 4], false⟩, ⟨6, 89, _, [1, 5], false⟩, ⟨7, 90, _, [6], false⟩, ⟨8, 93, _, [], true⟩, ⟨9, 94, _, [], true⟩, ⟨10, 95, _, [], true⟩, ⟨11, 96, _, [10], true⟩, ⟨12, 97, _, [9, 11], true⟩, ⟨13, 98, _, [8, 12], true⟩] [] [1, 2, 3, 4, 5, 6, 7] [92, 8, 9, 10] [92, 8, 9, 10, 83, 93, 94, 95, 96, 97, 98] (.inl ⟨_, by repeat' constructor⟩) rfl rfl rfl (by kernel_rfl) rfl (by kernel_rfl) rfl rfl
        · refine AllF.consPR 0 [] rfl rfl rfl rfl (by kernel_rfl) rfl ?_ ?_
          · refine s_mv rfl rfl ?_
            exact obN rfl
          refine AllF.consP 1 [] rfl rfl rfl rfl (by kernel_rfl) rfl ?_ ?_
          · refine s_mv rfl rfl ?_
            exact obN rfl
          refine AllF.consP 2 [] rfl rfl rfl rfl (by kernel_rfl) rfl ?_ ?_
          · refine s_mv rfl rfl ?_
            exact obN rfl
          refine AllF.consP 3 [] rfl rfl rfl rfl (by kernel_rfl) rfl ?_ ?_
          · refine s_fa (o2 := 2) rfl rfl rfl ?_
            exact obN rfl
          refine AllF.consP 4 [3] rfl rfl rfl rfl (by kernel_rfl) rfl ?_ ?_
          · refine s_ld rfl rfl (by rfl) ?_
            exact obN rfl
          refine AllF.consP 5 [2, 4] rfl rfl rfl rfl (by kernel_rfl) rfl ?_ ?_
          · refine s_mul rfl rfl rfl (w_i64 (by rw [hnH]; omega) (by rw [hnH]; omega)) ?_
            rw [hnH]
            exact obN rfl
          refine AllF.consP 6 [1, 5] rfl rfl rfl rfl (by kernel_rfl) rfl ?_ ?_
          · first | refine s_add rfl rfl rfl (w_i64 (by omega) (by omega)) ?_ | refine s_addw rfl rfl rfl ?_
            exact obN rfl
          refine AllF.consP 7 [6] rfl rfl rfl rfl (by kernel_rfl) rfl ?_ ?_
          · refine s_bd rfl rfl ?_
            exact obN rfl
          refine AllF.consPR 8 [] rfl rfl rfl rfl (by kernel_rfl) rfl ?_ ?_
          · refine s_mv rfl rfl ?_
            exact obN rfl
          refine AllF.consPR 9 [] rfl rfl rfl rfl (by kernel_rfl) rfl ?_ ?_
          · refine s_mv rfl rfl ?_
            exact obN rfl
          refine AllF.consPR 10 [] rfl rfl rfl rfl (by kernel_rfl) rfl ?_ ?_
          · refine s_fa (o2 := 2) rfl rfl rfl ?_
            exact obN rfl
          refine AllF.consPR 11 [10] rfl rfl rfl rfl (by kernel_rfl) rfl ?_ ?_
          · refine s_ld rfl rfl (by rfl) ?_
            exact obN rfl
          refine AllF.consPR 12 [9, 11] rfl rfl rfl rfl (by kernel_rfl) rfl ?_ ?_
          · refine s_mul rfl rfl rfl (w_i64 (by rw [hnH]; omega) (by rw [hnH]; omega)) ?_
            rw [hnH]
            exact obN rfl
          refine AllF.consPR 13 [8, 12] rfl rfl rfl rfl (by kernel_rfl) rfl ?_ ?_
          · first | refine s_add rfl rfl rfl (w_i64 (by omega) (by omega)) ?_ | refine s_addw rfl rfl rfl ?_
            exact obN rfl
          exact AllF.nil
        · refine s_bsA1 rfl rfl (by rfl) (by rfl) (by rfl) (by rfl) ?_
          intro g4
          refine WpL.nil ⟨rfl, rfl, ?_⟩
          apply GoR.segFP [] [0, 8, 9, 10, 11, 12, 13] [0] [8, 9, 10] [8, 9, 10, 93, 94, 95, 96, 97, 98] (.inl ⟨_, by repeat' constructor⟩) rfl rfl rfl (by kernel_rfl) rfl (by kernel_rfl) rfl rfl
          · exact AllF.nil
          · refine WpL.ent (Ent.own_nil (T := 92) (s := 1) (Ent.refl _)) ?_
            refine s_apR1 (dnE ((at0 + y * (strd h.K h.W.toNat (wideM h.M)) : Nat) : Int)) rfl rfl rfl (by repeat' constructor) rfl (by rfl) (by rfl) (by rfl) (by rfl) (by first | omega | (simp only [List.length_append, List.length_cons, List.length_nil]; omega)) (by first | omega | (simp only [List.length_append, List.length_cons, List.length_nil]; omega)) ?_
            intro a92 c92
            refine WpL.nil ⟨rfl, rfl, ?_⟩
            apply GoR.nilP [⟨16, 8, _, [0, 1, 2, 3, 4, 5, 6, 7, 14, 15], false⟩, ⟨17, 9, _, [0, 1, 2, 3, 4, 5, 6, 7, 8, 9, 10, 11, 12, 13, 14, 15, 16], false⟩, ⟨18, 10, _, [0, 1, 2, 3, 4, 5, 6, 7, 8, 9, 10, 11, 12, 13, 14, 15, 16, 17], false⟩] 19 (by kernel_rfl) (.inl ⟨_, by repeat' constructor⟩) rfl rfl
            · refine AllF.consP 16 [0, 1, 2, 3, 4, 5, 6, 7, 14, 15] rfl rfl rfl rfl (by kernel_rfl) rfl ?_ ?_
              · refine s_as rfl rfl ?_
                exact obN rfl
              refine AllF.consP 17 [0, 1, 2, 3, 4, 5, 6, 7, 8, 9, 10, 11, 12, 13, 14, 15, 16] rfl rfl rfl rfl (by kernel_rfl) rfl ?_ ?_
              · refine s_as rfl rfl ?_
                exact obN rfl
              refine AllF.consP 18 [0, 1, 2, 3, 4, 5, 6, 7, 8, 9, 10, 11, 12, 13, 14, 15, 16, 17] rfl rfl rfl rfl (by kernel_rfl) rfl ?_ ?_
              · refine s_as rfl rfl ?_
                exact obN rfl
              exact AllF.nil
            · refine Wp.ret ?_
              apply RetQ.mk
              · exact (Res.three rfl rfl rfl rfl)
              · exact ⟨_, _, (out ++ [dnE ((at0 + y * (strd h.K h.W.toNat (wideM h.M)) : Nat) : Int)]), ((at0 + y * (strd h.K h.W.toNat (wideM h.M)) : Nat) : Int), 0, fun l0 l1 l2 imgs => rw_done (hI l0 l1 l2 imgs) (by omega), ⟨by omega, by omega⟩, (by first | omega | (simp only [List.length_append, List.length_cons, List.length_nil]; omega)), ⟨fun _ => ⟨_, out, rfl, hkk⟩, fun q => absurd rfl q⟩, rfl, rfl⟩
              · first | exact Ent.refl _ | exact Ent.nil _ | exact Take.ent' (by repeat' constructor) | (repeat (first | exact Ent.refl _ | refine Ent.drop ?_))


theorem rraw_spec (A0 : HP) (a0 : Option Addr) (c0 : Nat) (bs : List Int) (hA : RdsL [A0] a0 (u8s bs)) (hbs : ∀ x ∈ bs, 0 ≤ x ∧ x ≤ 255) (hc0 : bs.length ≤ c0) (hbl : bs.length ≤ 100000000000) (at0 : Nat) (hat : at0 ≤ bs.length) (h : HS) (hf : HdFine h) (hK : 4 ≤ h.K) (fin : Bool) : Fn Tryz.prog 59 #[.slice a0 bs.length c0, .int .i64 (at0 : Int), .agg #[.int .i64 h.K, .int .i64 h.W, .int .i64 h.H, .int .i64 h.M], .bool fin] [A0] (fun v l => ∃ a c out to f, (∀ l0 l1 l2 imgs, BodyOut l0 l1 l2 fin h (.rw (rw0 h)) bs at0 imgs out to f) ∧ ((at0 : Int) ≤ to ∧ to ≤ bs.length) ∧ (out.length : Int) ≤ to - at0 + 2 ∧ ((f = 0 → ∃ t rows, out = rows ++ [dnE t] ∧ ∀ x ∈ rows, evRw x) ∧ (f ≠ 0 → ∀ x ∈ out, evRw x)) ∧ v = .tuple #[.slice a out.length c, .int .i64 to, .int .i64 f] ∧ l = [esR a c out, A0]) := by
  have hM := hf.2.2
  unfold MayH at hM
  have q := rraw_open A0 a0 c0 bs hA hbs hc0 hbl at0 hat h hf hK fin
  rw [show ((h.W.toNat : Nat) : Int) = h.W by omega, show ((h.H.toNat : Nat) : Int) = h.H by omega] at q
  exact q

end Go.Proofs.YtggamdlpiejbiaaGreat
