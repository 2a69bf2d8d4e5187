/- A region whose order is drawn, the last operations of which come last in every order. -/
import Derived.Test.YtpoahaadnbdgcaaRead
import Derived.OrdersIn
namespace Go.Proofs.Ytpoahaadnbdgcaa
open Go.RowKit Go.Shelf
section
variable {P : Program} {n : Cx} {D : List Deferred} {Q : Post} {fr : Fr} {l m : List HP}

def tailOk (k : Nat) (tl : List Oper) : Bool := (tl.zipIdx k).all fun (o, i) => ((List.range i).all fun j => o.after.toList.any fun e => Region.binds .any e && e.on == j) && o.after.toList.all fun e => !Region.binds .any e || Nat.blt e.on i

theorem tail_any {ops : Array Oper} {Q : Exit → Act → World → Prop} : ∀ (tl pre : List Oper), ops = (pre ++ tl).toArray → tailOk pre.length tl = true → ∀ (fuel : Nat) (listed : Array Bool) (a : Act) (w : World), listed.size = (pre ++ tl).length → tl.length ≤ fuel →
    (∀ i, i < (pre ++ tl).length → listed.getD i false = decide (i < pre.length)) → wpListIn (FR n.ro) 0 P ops Q tl a w → wpAnyIn (FR n.ro) 0 P .any ops Q fuel listed a w := by
  intro tl
  induction tl with
  | nil =>
    intro pre ho hk fuel listed a w hsz hf hl h
    have hr : Region.ready .any ops listed = [] := by
      refine List.eq_nil_iff_forall_not_mem.2 fun i hi => ?_
      obtain ⟨h1, o, ho', _⟩ := mem_ready.1 hi
      have hlt : i < pre.length := by have := (Array.getElem?_eq_some_iff.1 ho').1; simpa [ho] using this
      have h2 := hl i (by simpa using hlt)
      simp only [List.append_nil] at hsz
      simp [Array.getD, hsz, hlt] at h1 h2
      rw [h2] at h1; cases h1
    cases fuel with
    | zero => exact ⟨hr, h⟩
    | succ fuel => exact ⟨fun _ => h, fun i hi => by rw [hr] at hi; cases hi⟩
  | cons o tl ih =>
    intro pre ho hk fuel listed a w hsz hf hl h
    cases fuel with
    | zero => simp at hf
    | succ fuel =>
      have hlen : (pre ++ o :: tl).length = pre.length + (tl.length + 1) := by simp
      have hk' := hk
      simp only [tailOk, List.zipIdx_cons, List.all_cons, Bool.and_eq_true] at hk'
      obtain ⟨⟨_, hedge⟩, hktl⟩ := hk'
      have hk0 : pre.length ∈ Region.ready .any ops listed := by
        refine mem_ready.2 ⟨?_, o, by simp [ho], fun e he hbd => ?_⟩
        · have := hl pre.length (by omega)
          have hlt : pre.length < listed.size := by omega
          simpa [Array.getD, hlt] using this
        · have h1 : e.on < pre.length := by
            have h0 := List.all_eq_true.1 hedge e (Array.mem_toList_iff.2 he)
            rw [hbd] at h0
            exact Eq.mp Nat.blt_eq h0
          rw [hl e.on (by omega)]
          simpa using h1
      refine ⟨(fun hr => by rw [hr] at hk0; cases hk0), fun i hi => ?_⟩
      obtain ⟨h1, o', ho', hed⟩ := mem_ready.1 hi
      have hlt : i < (pre ++ o :: tl).length := by have := (Array.getElem?_eq_some_iff.1 ho').1; simpa [ho] using this
      have hge : ¬ i < pre.length := by
        intro hc
        have h2 := hl i hlt
        have hlt2 : i < listed.size := by omega
        simp [Array.getD, hlt2, hc] at h1 h2
        rw [h2] at h1; cases h1
      have hik : i = pre.length := by
        refine Classical.byContradiction fun hne => ?_
        have h2 := List.all_eq_true.1 hk (o', i) (by
          rw [List.mem_zipIdx_iff_le_and_getElem?_sub]
          refine ⟨by omega, ?_⟩
          have h3 : (pre ++ o :: tl)[i]? = some o' := by simpa [ho] using ho'
          rwa [List.getElem?_append_right (by omega)] at h3)
        simp only [Bool.and_eq_true] at h2
        have h4 := List.all_eq_true.1 h2.1 pre.length (by simp; omega)
        obtain ⟨e, he', hc⟩ := List.any_eq_true.1 h4
        have he := Array.mem_toList_iff.1 he'
        simp only [Bool.and_eq_true, beq_iff_eq] at hc
        have h5 := hed e he hc.1
        rw [hc.2, hl pre.length (by omega)] at h5
        simp at h5
      subst hik
      have hoo : ops[pre.length]? = some o := by simp [ho]
      have key : ∀ a w, wpListIn (FR n.ro) 0 P ops Q tl a w → wpAnyIn (FR n.ro) 0 P .any ops Q fuel (listed.setIfInBounds pre.length true) a w := by
        intro a w hw
        refine ih (pre ++ [o]) (by simp [ho]) ?_ fuel _ a w (by simp; omega) (by simpa using hf) (fun j hj => ?_) hw
        · simpa [tailOk] using hktl
        · rw [getD_set (by omega)]
          by_cases e : pre.length = j
          · subst e; simp
          · rw [if_neg e, hl j (by simpa using hj)]
            simp only [List.length_append, List.length_cons, List.length_nil]
            rw [decide_eq_decide]; omega
      unfold wpOpIn
      rw [hoo]
      unfold wpListIn at h
      simp only at h ⊢
      split at h
      · rename_i hw
        rw [if_pos hw]
        exact op_mono key (fun _ _ _ x => x) h
      · rename_i hw
        rw [if_neg hw]
        exact ⟨h.1, key _ _ h.2⟩

/-- A region that draws its order: vs: of each of the first operations the slot, the value, and what it hangs on; the others come behind all of these, in their row. -/
theorem Wp.drawT {id : Nat} {os : List Oper} (hm : P.follows .mixedOrders = true) (vs : List Dr) (hok : drawOk (os.take vs.length) vs (Go.Proofs.Ytpoahaadnbdgcaa.dropK (vs.map (·.d)) fr) = true) (ht : tailOk (os.take vs.length).length (os.drop vs.length) = true)
    (obs : AllObs P n D os.toArray vs (Go.Proofs.Ytpoahaadnbdgcaa.dropK (vs.map (·.d)) fr) l (os.take vs.length) vs) (k : WpL P n D os.toArray (os.drop vs.length) Q (allFr (Go.Proofs.Ytpoahaadnbdgcaa.dropK (vs.map (·.d)) fr) vs) l) : Wp P n D (.region id os.toArray true) Q fr l := by
  intro a w U hh hs
  refine wpIn_region_any hm ?_
  have hos : os = os.take vs.length ++ os.drop vs.length := (List.take_append_drop _ _).symm
  generalize os.take vs.length = o1 at *
  generalize os.drop vs.length = tl at *
  subst hos
  generalize hbase : Go.Proofs.Ytpoahaadnbdgcaa.dropK (vs.map (·.d)) fr = base at *
  have hb0 : Holds n D a base := by rw [← hbase]; exact hh.dropK _
  simp only [drawOk, Bool.and_eq_true, beq_iff_eq] at hok
  obtain ⟨⟨⟨hd, hds⟩, hdep⟩, hord⟩ := hok
  have hlen : o1.length = vs.length := by simpa using congrArg List.length hd
  have main : ∀ (fuel : Nat) (listed : Array Bool) (a : Act) (w1 : World), listed.size = (o1 ++ tl).length → (∀ i, o1.length ≤ i → i < (o1 ++ tl).length → listed.getD i false = false) → unl listed o1.length + tl.length ≤ fuel → Holds n D a base →
      (∀ i p, vs[i]? = some p → listed.getD i false = true → a.tmps.getD p.d undef = p.v) → Out l U w w1 → wpAnyIn (FR n.ro) 0 P .any (o1 ++ tl).toArray (After n Q U w) fuel listed a w1 := by
    intro fuel
    induction fuel with
    | zero =>
      intro listed a w1 hsz htl hu hb hv ho
      have hall := unl_zero (listed := listed) (k := o1.length) (by omega)
      refine tail_any tl o1 rfl ht 0 listed a w1 hsz (by omega) (fun i hi => ?_) (k.go (allFr_holds hb vs fun p hp => ?_) ho)
      · by_cases h : i < o1.length
        · rw [hall i h]; simp [h]
        · rw [htl i (by omega) hi]; simp [h]
      · obtain ⟨i, hi⟩ := List.mem_iff_getElem?.1 hp
        exact hv i p hi (hall i (by rw [hlen]; exact (List.getElem?_eq_some_iff.1 hi).1))
    | succ fuel ih =>
      intro listed a w1 hsz htl hu hb hv ho
      by_cases hdone : unl listed o1.length = 0
      · have hall := unl_zero (k := o1.length) hdone
        refine tail_any tl o1 rfl ht _ listed a w1 hsz (by omega) (fun i hi => ?_) (k.go (allFr_holds hb vs fun p hp => ?_) ho)
        · by_cases h : i < o1.length
          · rw [hall i h]; simp [h]
          · rw [htl i (by omega) hi]; simp [h]
        · obtain ⟨i, hi⟩ := List.mem_iff_getElem?.1 hp
          exact hv i p hi (hall i (by rw [hlen]; exact (List.getElem?_eq_some_iff.1 hi).1))
      · -- one of the first is left
        have hex : ∃ i, i < o1.length ∧ listed.getD i false = false := by
          refine Classical.byContradiction fun hc => hdone ?_
          have hall : ∀ k, k ≤ o1.length → unl listed k = 0 := by
            intro k
            induction k with
            | zero => intro _; rfl
            | succ k ihk =>
              intro hk
              have h1 : listed.getD k false = true := by
                cases hb : listed.getD k false
                · exact absurd ⟨k, by omega, hb⟩ hc
                · rfl
              simp [unl, ihk (by omega), h1]
          exact hall _ (Nat.le_refl _)
        obtain ⟨i0, hi0, hf0⟩ := hex
        have hsz1 : o1.length ≤ listed.size := by simp at hsz; omega
        have hready : Region.ready .any (o1 ++ tl).toArray listed ≠ [] := by
          have : ∃ i, i < o1.length ∧ listed.getD i false = false ∧ ∀ j, j < i → listed.getD j false = true := by
            have hlst := exists_least (p := fun i => i < o1.length ∧ listed.getD i false = false) ⟨i0, hi0, hf0⟩
            obtain ⟨i, ⟨h1, h2⟩, h3⟩ := hlst
            refine ⟨i, h1, h2, fun j hj => ?_⟩
            cases hb : listed.getD j false
            · exact absurd (h3 j ⟨by omega, hb⟩) (by omega)
            · rfl
          obtain ⟨i, h1, h2, h3⟩ := this
          have hm : i ∈ Region.ready .any (o1 ++ tl).toArray listed := by
            refine mem_ready.2 ⟨?_, o1[i], by simp [List.getElem?_append_left h1, List.getElem?_eq_getElem h1], fun e he hbd => ?_⟩
            · have hlt : i < listed.size := by omega
              simpa [Array.getD, hlt] using h2
            · have h4 := List.all_eq_true.1 hord (o1[i], i) (by rw [List.mem_zipIdx_iff_getElem?]; simp [List.getElem?_eq_getElem h1])
              have h5 := List.all_eq_true.1 h4 e (Array.mem_toList_iff.2 he)
              rw [hbd] at h5
              exact h3 e.on (Eq.mp Nat.blt_eq h5)
          intro e; rw [e] at hm; cases hm
        refine ⟨fun hr => absurd hr hready, fun i hi => ?_⟩
        obtain ⟨h1, o, ho', hedges⟩ := mem_ready.1 hi
        have hlt : i < (o1 ++ tl).length := by simpa using (Array.getElem?_eq_some_iff.1 ho').1
        have hlt1 : i < o1.length := by
          refine Classical.byContradiction fun hge => ?_
          have h2 := List.all_eq_true.1 ht (o, i) (by
            rw [List.mem_zipIdx_iff_le_and_getElem?_sub]
            refine ⟨by omega, ?_⟩
            have h3 : (o1 ++ tl)[i]? = some o := by simpa using ho'
            rwa [List.getElem?_append_right (by omega)] at h3)
          simp only [Bool.and_eq_true] at h2
          have h4 := List.all_eq_true.1 h2.1 i0 (by simp; omega)
          obtain ⟨e, he', hc⟩ := List.any_eq_true.1 h4
          have he := Array.mem_toList_iff.1 he'
          simp only [Bool.and_eq_true, beq_iff_eq] at hc
          have h5 := hedges e he hc.1
          rw [hc.2, hf0] at h5
          cases h5
        have hoi : o1[i]? = some o := by
          have h3 : (o1 ++ tl)[i]? = some o := by simpa using ho'
          rwa [List.getElem?_append_left hlt1] at h3
        have hlsz : i < listed.size := by omega
        have hnl : listed.getD i false = false := by simpa [Array.getD, hlsz] using h1
        obtain ⟨p, hp⟩ : ∃ p, vs[i]? = some p := ⟨vs[i]'(by omega), List.getElem?_eq_getElem _⟩
        have hdst : o.dst = some p.d := by
          have := congrArg (fun x => x[i]?) hd
          simpa [hoi, hp] using this
        have hdp : depOk o p.ds = true := by
          refine List.all_eq_true.1 hdep (o, p) ?_
          refine List.mem_iff_getElem?.2 ⟨i, ?_⟩
          simp [List.getElem?_zip_eq_some, hoi, hp]
        have hfr : Holds n D a (depFr vs base p.ds) := by
          refine depFr_holds hb _ fun j hj q hq => ?_
          have h2 := List.all_eq_true.1 hdp j hj
          obtain ⟨e, he', hc⟩ := List.any_eq_true.1 h2
          have he := Array.mem_toList_iff.1 he'
          simp only [Bool.and_eq_true, beq_iff_eq] at hc
          obtain ⟨hc1, rfl⟩ := hc
          exact hv e.on q hq (hedges e he hc1)
        have hw := obs.at i o p hoi hp a w1 (Grow U w) hfr ho.1
        unfold wpOpIn
        rw [ho']
        have step : ∀ a' w', After n (obQ D p.d p.v l) (Grow U w) w1 .normal a' w' → (∃ v, a' = a.put (some p.d) v) → wpAnyIn (FR n.ro) 0 P .any (o1 ++ tl).toArray (After n Q U w) fuel (listed.setIfInBounds i true) a' w' := by
          rintro a' w' ⟨D', fr', l', ⟨_, rfl, hl, he⟩, hh', ho2⟩ ⟨v, rfl⟩
          have hpv : (a.put (some p.d) v).tmps.getD p.d undef = p.v := hh'.2.2 _ _ hl
          refine ih _ _ _ (by simpa using hsz) (fun j hj1 hj2 => ?_) ?_ ?_ ?_ (ho.then (ho2.ent he))
          · rw [getD_set (by omega), if_neg (by omega)]; exact htl j hj1 hj2
          · have := unl_set (listed := listed) (by omega) hnl o1.length
            rw [if_pos hlt1] at this
            omega
          · refine ⟨hh'.1, hh'.2.1, fun t u hu' => ?_⟩
            rw [put_getD (fun e => okDs_base hds i p.d (by simp [hp]) t u hu' e.symm)]
            exact hb.2.2 t u hu'
          · intro j q hq hlj
            by_cases e : i = j
            · subst e; rw [hp] at hq; cases hq; exact hpv
            · rw [getD_set (by omega), if_neg e] at hlj
              rw [put_getD (okDs_ne hds i j p.d q.d (by simp [hp]) (by simp [hq]) e)]
              exact hv j q hq hlj
        unfold wpListIn at hw
        simp only [hdst] at hw ⊢
        split at hw
        · rename_i hwant
          rw [if_pos hwant]
          refine op_mono2 (fun a' w' hk => ?_) (fun e a' w' hne hk => ?_) (op_put hw)
          · obtain ⟨hk1, hk2⟩ := hk
            rw [hdst] at hk2
            rcases hk2 with hk2 | hk2
            · exact step a' w' hk1 hk2
            · obtain ⟨D', fr', l', ⟨_, rfl, _⟩, hh', _⟩ := hk1
              exact absurd (hh'.1.trans hb.1.symm) hk2
          · obtain ⟨_, _, _, ⟨e, _⟩, _⟩ := hk
            exact absurd e hne
        · rename_i hwant
          rw [if_neg hwant]
          exact ⟨hw.1, step _ _ hw.2 ⟨_, rfl⟩⟩
  refine main (o1 ++ tl).toArray.size (Array.replicate (o1 ++ tl).toArray.size false) a _ (by simp) (fun i h1 h2 => ?_) ?_ hb0 (fun i p _ h => ?_) ⟨(Sat.keep (w := w) (w' := { w with drawn := w.drawn + 1 }) (Nat.le_refl _) hs fun _ _ _ => rfl).mono fun _ hb => .inl hb, ⟨rfl, rfl, rfl, Nat.le_refl _, fun _ _ _ => rfl⟩⟩
  · simp [Array.getD]
  · have := unl_le (listed := Array.replicate (o1 ++ tl).toArray.size false) o1.length
    simp at this ⊢; omega
  · simp [Array.getD] at h
end
end Go.Proofs.Ytpoahaadnbdgcaa
