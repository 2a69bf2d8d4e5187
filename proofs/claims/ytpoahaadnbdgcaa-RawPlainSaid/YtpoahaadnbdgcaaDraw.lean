/- A region whose order is drawn, all of whose operations only read or make: in every order each slot gets its value. -/
import Derived.Test.YtpoahaadnbdgcaaOps
import Derived.OrdersIn
namespace Go.Proofs.Ytpoahaadnbdgcaa
open Go.RowKit Go.Shelf

def unl (listed : Array Bool) : Nat → Nat
  | 0 => 0
  | k + 1 => unl listed k + (if listed.getD k false = true then 0 else 1)
theorem getD_set {listed : Array Bool} {i : Nat} (hi : i < listed.size) (j : Nat) (d : Bool) : (listed.setIfInBounds i true).getD j d = if i = j then true else listed.getD j d := by
  simp only [Array.getD, Array.size_setIfInBounds, Array.getInternal_eq_getElem]
  by_cases hj : j < listed.size
  · rw [dif_pos hj, dif_pos hj, Array.getElem_setIfInBounds (by simpa using hj)]
  · rw [dif_neg hj, dif_neg hj, if_neg (by omega)]
theorem unl_set {listed : Array Bool} {i : Nat} (hi : i < listed.size) (hf : listed.getD i false = false) : ∀ k, unl (listed.setIfInBounds i true) k + (if i < k then 1 else 0) = unl listed k
  | 0 => by simp [unl]
  | k + 1 => by
    have ih := unl_set hi hf k
    simp only [unl, getD_set hi]
    by_cases e : i = k
    · subst e
      rw [if_neg (Nat.lt_irrefl i)] at ih
      simp [hf]; omega
    · rw [if_neg e]
      by_cases h : i < k
      · rw [if_pos h] at ih; rw [if_pos (show i < k + 1 by omega)]; split <;> omega
      · rw [if_neg h] at ih; rw [if_neg (show ¬ i < k + 1 by omega)]; split <;> omega
theorem unl_zero {listed : Array Bool} : ∀ {k : Nat}, unl listed k = 0 → ∀ i, i < k → listed.getD i false = true
  | 0, _, i, hi => by omega
  | k + 1, h, i, hi => by
    simp only [unl] at h
    by_cases e : i = k
    · subst e
      cases hb : listed.getD i false
      · rw [hb] at h; simp at h
      · rfl
    · exact unl_zero (k := k) (by omega) i (by omega)

section
variable {P : Program} {n : Cx} {D : List Deferred} {Q : Post} {fr : Fr} {l m : List HP}

theorem op_mono2 {F : Fence} {k : Nat} {o : Oper} {a : Act} {w : World} {K K' : Act → World → Prop} {Q Q' : Exit → Act → World → Prop} (h : ∀ a w, K a w → K' a w) (hq : ∀ e a w, e ≠ .normal → Q e a w → Q' e a w)
    (hh : o.wpIn F k P a w K Q) : o.wpIn F k P a w K' Q' := by
  unfold Oper.wpIn at *
  refine ⟨hh.1, ?_⟩
  have hh := hh.2
  generalize (o.semAt F.round a.eval).run P w = r at *
  cases r with
  | ok n w' =>
    cases n <;> simp only [Oper.uponIn] at hh ⊢ <;>
      first
        | exact h _ _ hh
        | exact ⟨hh.1, CallsIn.mono hh.2 (fun e w'' he => by cases e <;> first | exact h _ _ he | exact hq _ _ _ (fun x => nomatch x) he | exact (let ⟨a, w, x⟩ := he; ⟨a, w, hq _ _ _ (fun x => nomatch x) x⟩))⟩
        | exact ⟨hh.1, RoundIn.mono hh.2 (fun e w'' he => by cases e <;> first | exact h _ _ he | exact hq _ _ _ (fun x => nomatch x) he | exact (let ⟨a, w, x⟩ := he; ⟨a, w, hq _ _ _ (fun x => nomatch x) x⟩))⟩
        | exact ⟨hh.1, RowsIn.mono hh.2 (fun _ _ he => h _ _ he)⟩
  | halt x w' => cases x <;> simp only [Oper.uponIn] at hh ⊢ <;> first | exact hq _ _ _ (fun x => nomatch x) hh | exact hh
theorem op_put {F : Fence} {k : Nat} {o : Oper} {a : Act} {w : World} {K : Act → World → Prop} {Q : Exit → Act → World → Prop} (hh : o.wpIn F k P a w K Q) :
    o.wpIn F k P a w (fun a' w' => K a' w' ∧ ((∃ v, a' = a.put o.dst v) ∨ a'.defers ≠ a.defers)) Q := by
  unfold Oper.wpIn at *
  refine ⟨hh.1, ?_⟩
  have hh := hh.2
  generalize (o.semAt F.round a.eval).run P w = r at *
  cases r with
  | ok nx w' =>
    cases nx <;> simp only [Oper.uponIn] at hh ⊢ <;>
      first
        | exact ⟨hh, .inl ⟨_, rfl⟩⟩
        | exact ⟨hh, .inr (by cases o.dst <;> simp [Act.put])⟩
        | exact ⟨hh.1, CallsIn.mono hh.2 (fun e w'' he => by cases e <;> first | exact ⟨he, .inl ⟨_, rfl⟩⟩ | exact he)⟩
        | exact ⟨hh.1, RoundIn.mono hh.2 (fun e w'' he => by cases e <;> first | exact ⟨he, .inl ⟨_, rfl⟩⟩ | exact he)⟩
        | exact ⟨hh.1, RowsIn.mono hh.2 (fun _ _ he => ⟨he, .inl ⟨_, rfl⟩⟩)⟩
  | halt x w' => cases x <;> simp only [Oper.uponIn] at hh ⊢ <;> exact hh

def depOk (o : Oper) (ds : List Nat) : Bool := ds.all fun i => o.after.toList.any fun e => Region.binds .any e && e.on == i
/-- What an operation must do: its slot's value; the parts stay. -/
def obQ (D : List Deferred) (d : Nat) (v : Value) (l : List HP) : Post := fun e D' fr' l' => e = .normal ∧ D' = D ∧ lk fr' d = some v ∧ Ent l' l
structure Dr where
  d : Nat
  v : Value
  ds : List Nat
def depFr (vs : List Dr) (base : Fr) : List Nat → Fr
  | [] => base
  | i :: is => match vs[i]? with
    | some p => (p.d, p.v) :: depFr vs base is
    | none => depFr vs base is
def AllObs (P : Program) (n : Cx) (D : List Deferred) (ops : Array Oper) (vs : List Dr) (base : Fr) (l : List HP) : List Oper → List Dr → Prop
  | o :: os, p :: ps => WpL P n D ops [o] (obQ D p.d p.v l) (depFr vs base p.ds) l ∧ AllObs P n D ops vs base l os ps
  | _, _ => True
theorem AllObs.at {ops : Array Oper} {vs : List Dr} {base : Fr} : ∀ {os : List Oper} {ps : List Dr}, AllObs P n D ops vs base l os ps → ∀ (i : Nat) (o : Oper) (p : Dr), os[i]? = some o → ps[i]? = some p → WpL P n D ops [o] (obQ D p.d p.v l) (depFr vs base p.ds) l
  | o :: os, p :: ps, h, 0, o', p', ho, hp => by simp at ho hp; subst ho; subst hp; exact h.1
  | o :: os, p :: ps, h, i + 1, o', p', ho, hp => h.2.at i o' p' (by simpa using ho) (by simpa using hp)
  | [], _, _, i, _, _, ho, _ => by simp at ho
  | _ :: _, [], _, i, _, _, _, hp => by simp at hp
def okDs (base : Fr) : List Nat → Bool
  | [] => true
  | d :: ds => !ds.contains d && (base.all fun p => p.1 != d) && okDs base ds
def drawOk (os : List Oper) (vs : List Dr) (base : Fr) : Bool :=
  (os.map (·.dst) == vs.map fun p => some p.d) && okDs base (vs.map (·.d)) && (os.zip vs).all (fun (o, p) => depOk o p.ds) &&
  (os.zipIdx).all (fun (o, i) => o.after.toList.all fun e => !Region.binds .any e || Nat.blt e.on i)
def allFr (base : Fr) : List Dr → Fr
  | [] => base
  | p :: ps => (p.d, p.v) :: allFr base ps

theorem lk_mem : ∀ {fr : Fr} {t : Nat} {v : Value}, lk fr t = some v → ∃ p ∈ fr, p.1 = t
  | (k, u) :: fr, t, v, h => by
    simp only [lk] at h
    cases hb : Nat.beq k t with
    | true => exact ⟨(k, u), List.mem_cons_self, Nat.eq_of_beq_eq_true hb⟩
    | false => rw [hb] at h; obtain ⟨p, hp, e⟩ := lk_mem h; exact ⟨p, List.mem_cons_of_mem _ hp, e⟩
  | [], t, v, h => by simp [lk] at h
theorem okDs_base : ∀ {ds : List Nat} {base : Fr}, okDs base ds = true → ∀ (i d : Nat), ds[i]? = some d → ∀ (t : Nat) (v : Value), lk base t = some v → t ≠ d
  | d0 :: ds, base, h, i, d, hi, t, v, hl => by
    simp only [okDs, Bool.and_eq_true] at h
    cases i with
    | zero =>
      simp at hi; subst hi
      obtain ⟨p, hp, e⟩ := lk_mem hl
      have := List.all_eq_true.1 h.1.2 p hp
      rintro rfl
      simp [e] at this
    | succ i => exact okDs_base h.2 i d (by simpa using hi) t v hl
  | [], _, _, i, d, hi, _, _, _ => by simp at hi
theorem okDs_ne : ∀ {ds : List Nat} {base : Fr}, okDs base ds = true → ∀ (i j d e : Nat), ds[i]? = some d → ds[j]? = some e → i ≠ j → d ≠ e
  | d0 :: ds, base, h, i, j, d, e, hi, hj, hne => by
    simp only [okDs, Bool.and_eq_true, Bool.not_eq_true', List.contains_eq_mem, decide_eq_false_iff_not] at h
    cases i with
    | zero =>
      cases j with
      | zero => exact absurd rfl hne
      | succ j => simp at hi hj; subst hi; rintro rfl; exact h.1.1 (List.mem_of_getElem? hj)
    | succ i =>
      cases j with
      | zero => simp at hi hj; subst hj; rintro rfl; exact h.1.1 (List.mem_of_getElem? hi)
      | succ j => exact okDs_ne h.2 i j d e (by simpa using hi) (by simpa using hj) (by omega)
  | [], _, _, i, _, d, _, hi, _, _ => by simp at hi
theorem depFr_holds {a : Act} {vs : List Dr} {base : Fr} (hb : Holds n D a base) : ∀ (is : List Nat), (∀ i ∈ is, ∀ p, vs[i]? = some p → a.tmps.getD p.d undef = p.v) → Holds n D a (depFr vs base is)
  | [], _ => hb
  | i :: is, h => by
    have ih := depFr_holds hb is fun j hj => h j (List.mem_cons_of_mem _ hj)
    simp only [depFr]
    cases hp : vs[i]? with
    | none => exact ih
    | some p =>
      refine ⟨ih.1, ih.2.1, fun t v hv => ?_⟩
      simp only [lk] at hv
      cases hbq : Nat.beq p.d t with
      | true => rw [hbq] at hv; have := Nat.eq_of_beq_eq_true hbq; subst this; simp only [cond_true, Option.some.injEq] at hv; subst hv; exact h i List.mem_cons_self p hp
      | false => rw [hbq] at hv; exact ih.2.2 t v hv
theorem allFr_holds {a : Act} {base : Fr} (hb : Holds n D a base) : ∀ (vs : List Dr), (∀ p ∈ vs, a.tmps.getD p.d undef = p.v) → Holds n D a (allFr base vs)
  | [], _ => hb
  | p :: vs, h => by
    have ih := allFr_holds hb vs fun q hq => h q (List.mem_cons_of_mem _ hq)
    refine ⟨ih.1, ih.2.1, fun t v hv => ?_⟩
    simp only [allFr, lk] at hv
    cases hbq : Nat.beq p.d t with
    | true => rw [hbq] at hv; have := Nat.eq_of_beq_eq_true hbq; subst this; simp only [cond_true, Option.some.injEq] at hv; subst hv; exact h p List.mem_cons_self
    | false => rw [hbq] at hv; exact ih.2.2 t v hv

theorem put_getD {a : Act} {d t : Nat} {v : Value} (h : d ≠ t) : (a.put (some d) v).tmps.getD t undef = a.tmps.getD t undef := by
  simp only [Act.put, Array.getD, Array.size_setIfInBounds, Array.getInternal_eq_getElem]
  by_cases ht : t < a.tmps.size
  · rw [dif_pos ht, dif_pos ht, Array.getElem_setIfInBounds (by simpa using ht), if_neg h]
  · rw [dif_neg ht, dif_neg ht]

theorem draw_any {os : List Oper} {vs : List Dr} {base : Fr} (hok : drawOk os vs base = true) (obs : AllObs P n D os.toArray vs base l os vs) (kn : Q .normal D (allFr base vs) l) {w0 : World} {U : Nat → Prop} :
    ∀ (fuel : Nat) (listed : Array Bool) (a : Act) (w : World), listed.size = os.length → unl listed os.length ≤ fuel → Holds n D a base → (∀ i p, vs[i]? = some p → listed.getD i false = true → a.tmps.getD p.d undef = p.v) → Out l U w0 w →
      wpAnyIn (FR n.ro) 0 P .any os.toArray (After n Q U w0) fuel listed a w := by
  simp only [drawOk, Bool.and_eq_true, beq_iff_eq] at hok
  obtain ⟨⟨⟨hd, hds⟩, hdep⟩, hord⟩ := hok
  have hlen : os.length = vs.length := by simpa using congrArg List.length hd
  have fin : ∀ (listed : Array Bool) (a : Act) (w : World), (∀ i, i < os.length → listed.getD i false = true) → Holds n D a base → (∀ i p, vs[i]? = some p → listed.getD i false = true → a.tmps.getD p.d undef = p.v) → Out l U w0 w → After n Q U w0 .normal a w := by
    intro listed a w hall hb hv ho
    refine ⟨_, _, l, kn, allFr_holds hb vs fun p hp => ?_, ho⟩
    obtain ⟨i, hi⟩ := List.mem_iff_getElem?.1 hp
    exact hv i p hi (hall i (by rw [hlen]; exact (List.getElem?_eq_some_iff.1 hi).1))
  have noready : ∀ (listed : Array Bool), listed.size = os.length → Region.ready .any os.toArray listed = [] → ∀ i, i < os.length → listed.getD i false = true := by
    intro listed hsz hr i
    induction i using Nat.strongRecOn with
    | _ i ih =>
      intro hi
      cases hb : listed.getD i false with
      | true => rfl
      | false =>
        exfalso
        have hm : i ∈ Region.ready .any os.toArray listed := by
          refine mem_ready.2 ⟨?_, os[i], by simp [List.getElem?_eq_getElem hi], fun e he hbd => ?_⟩
          · simpa [Array.getD, hsz, hi] using hb
          · have h1 := List.all_eq_true.1 hord (os[i], i) (by rw [List.mem_zipIdx_iff_getElem?]; simp [List.getElem?_eq_getElem hi])
            have h2 := List.all_eq_true.1 h1 e (Array.mem_toList_iff.2 he)
            have h3 : e.on < i := by rw [hbd] at h2; exact Eq.mp Nat.blt_eq h2
            exact ih e.on h3 (by omega)
        rw [hr] at hm; cases hm
  intro fuel
  induction fuel with
  | zero =>
    intro listed a w hsz hu hb hv ho
    have hall := unl_zero (k := os.length) (Nat.le_zero.1 hu)
    refine ⟨?_, fin listed a w hall hb hv ho⟩
    refine List.eq_nil_iff_forall_not_mem.2 fun i hi => ?_
    obtain ⟨h1, o, ho', _⟩ := mem_ready.1 hi
    have hlt : i < os.length := by simpa using (Array.getElem?_eq_some_iff.1 ho').1
    have := hall i hlt
    simp [Array.getD, hsz, hlt] at this h1
    rw [this] at h1; cases h1
  | succ fuel ih =>
    intro listed a w hsz hu hb hv ho
    refine ⟨fun hr => fin listed a w (noready listed hsz hr) hb hv ho, fun i hi => ?_⟩
    obtain ⟨h1, o, ho', hedges⟩ := mem_ready.1 hi
    have hlt : i < os.length := by simpa using (Array.getElem?_eq_some_iff.1 ho').1
    have hoi : os[i]? = some o := by simpa using ho'
    have hnl : listed.getD i false = false := by simpa [Array.getD, hsz, hlt] using h1
    obtain ⟨p, hp⟩ : ∃ p, vs[i]? = some p := ⟨vs[i]'(by omega), List.getElem?_eq_getElem _⟩
    have hdst : o.dst = some p.d := by
      have := congrArg (fun x => x[i]?) hd
      simpa [hoi, hp] using this
    have hdp : depOk o p.ds = true := by
      refine List.all_eq_true.1 hdep (o, p) ?_
      refine List.mem_iff_getElem?.2 ⟨i, ?_⟩
      simp [List.getElem?_zip_eq_some, hoi, hp]
    have hfr : Holds n D a (depFr vs base p.ds) := by
      refine depFr_holds hb _ fun j hj q hq => ?_
      have h2 := List.all_eq_true.1 hdp j hj
      obtain ⟨e, he', hc⟩ := List.any_eq_true.1 h2
      have he := Array.mem_toList_iff.1 he'
      simp only [Bool.and_eq_true, beq_iff_eq] at hc
      obtain ⟨hc1, rfl⟩ := hc
      exact hv e.on q hq (hedges e he hc1)
    have hw := obs.at i o p hoi hp a w (Grow U w0) hfr ho.1
    unfold wpOpIn
    rw [ho']
    have step : ∀ a' w', After n (obQ D p.d p.v l) (Grow U w0) w .normal a' w' → (∃ v, a' = a.put (some p.d) v) → wpAnyIn (FR n.ro) 0 P .any os.toArray (After n Q U w0) fuel (listed.setIfInBounds i true) a' w' := by
      rintro a' w' ⟨D', fr', l', ⟨_, rfl, hl, he⟩, hh', ho2⟩ ⟨v, rfl⟩
      have hpv : (a.put (some p.d) v).tmps.getD p.d undef = p.v := hh'.2.2 _ _ hl
      refine ih _ _ _ (by simpa using hsz) ?_ ?_ ?_ (ho.then (ho2.ent he))
      · have := unl_set (listed := listed) (by omega) hnl os.length
        rw [if_pos hlt] at this
        omega
      · refine ⟨hh'.1, hh'.2.1, fun t u hu' => ?_⟩
        rw [put_getD (fun e => okDs_base hds i p.d (by simp [hp]) t u hu' e.symm)]
        exact hb.2.2 t u hu'
      · intro j q hq hlj
        by_cases e : i = j
        · subst e; rw [hp] at hq; cases hq; exact hpv
        · rw [getD_set (by omega), if_neg e] at hlj
          rw [put_getD (okDs_ne hds i j p.d q.d (by simp [hp]) (by simp [hq]) e)]
          exact hv j q hq hlj
    unfold wpListIn at hw
    simp only [hdst] at hw ⊢
    split at hw
    · rename_i hwant
      rw [if_pos hwant]
      refine op_mono2 (fun a' w' hk => ?_) (fun e a' w' hne hk => ?_) (op_put hw)
      · obtain ⟨hk1, hk2⟩ := hk
        rw [hdst] at hk2
        rcases hk2 with hk2 | hk2
        · exact step a' w' hk1 hk2
        · obtain ⟨D', fr', l', ⟨_, rfl, _⟩, hh', _⟩ := hk1
          exact absurd (hh'.1.trans hb.1.symm) hk2
      · obtain ⟨_, _, _, ⟨e, _⟩, _⟩ := hk
        exact absurd e hne
    · rename_i hwant
      rw [if_neg hwant]
      exact ⟨hw.1, step _ _ hw.2 ⟨_, rfl⟩⟩

def inL (t : Nat) : List Nat → Bool
  | [] => false
  | d :: ds => cond (Nat.beq d t) true (inL t ds)
def dropK (ds : List Nat) : Fr → Fr
  | [] => []
  | (t, v) :: fr => cond (inL t ds) (dropK ds fr) ((t, v) :: dropK ds fr)
theorem inL_eq {t : Nat} : ∀ {ds : List Nat}, inL t ds = true ↔ t ∈ ds
  | [] => by simp [inL]
  | d :: ds => by
    simp only [inL]
    cases h : Nat.beq d t with
    | true => simp [Nat.eq_of_beq_eq_true h]
    | false =>
      have : t ≠ d := fun e => by subst e; simp at h
      simp [inL_eq (t := t) (ds := ds), this]
theorem dropK_lk {ds : List Nat} : ∀ {fr : Fr} {t : Nat} {v : Value}, lk (dropK ds fr) t = some v → lk fr t = some v ∧ t ∉ ds
  | [], t, v, h => by simp [dropK, lk] at h
  | (k, u) :: fr, t, v, h => by
    simp only [dropK] at h
    cases hi : inL k ds with
    | true =>
      rw [hi] at h
      obtain ⟨h1, h2⟩ := dropK_lk (fr := fr) h
      refine ⟨?_, h2⟩
      simp only [lk]
      cases hb : Nat.beq k t with
      | true => have := Nat.eq_of_beq_eq_true hb; subst this; exact absurd (inL_eq.1 hi) h2
      | false => exact h1
    | false =>
      rw [hi] at h
      simp only [cond_false, lk] at h ⊢
      cases hb : Nat.beq k t with
      | true =>
        rw [hb] at h
        have := Nat.eq_of_beq_eq_true hb; subst this
        exact ⟨h, fun hm => by rw [inL_eq.2 hm] at hi; cases hi⟩
      | false => rw [hb] at h; exact dropK_lk h
theorem Holds.dropK {a : Act} (h : Holds n D a fr) (ds : List Nat) : Holds n D a (dropK ds fr) := ⟨h.1, h.2.1, fun t v hv => h.2.2 t v (dropK_lk hv).1⟩

theorem unl_le {listed : Array Bool} : ∀ k, unl listed k ≤ k
  | 0 => Nat.le_refl _
  | k + 1 => by have := unl_le (listed := listed) k; simp only [unl]; split <;> omega
/-- A region that draws its order: vs: each operation's slot, value, and what it hangs on. -/
theorem Wp.draw {id : Nat} {os : List Oper} (hm : P.follows .mixedOrders = true) (vs : List Dr) (hok : drawOk os vs (Go.Proofs.Ytpoahaadnbdgcaa.dropK (vs.map (·.d)) fr) = true)
    (obs : AllObs P n D os.toArray vs (Go.Proofs.Ytpoahaadnbdgcaa.dropK (vs.map (·.d)) fr) l os vs) (k : Q .normal D (allFr (Go.Proofs.Ytpoahaadnbdgcaa.dropK (vs.map (·.d)) fr) vs) l) : Wp P n D (.region id os.toArray true) Q fr l := by
  intro a w U hh hs
  refine wpIn_region_any hm ?_
  refine draw_any hok obs k (w0 := w) (U := U) _ _ a _ (by simp) ?_ (hh.dropK _) ?_ ⟨?_, ⟨rfl, rfl, rfl, Nat.le_refl _, fun _ _ _ => rfl⟩⟩
  · simpa using unl_le (listed := Array.replicate os.length false) os.length
  · intro i p _ h
    simp [Array.getD] at h
  · exact (Sat.keep (w := w) (w' := { w with drawn := w.drawn + 1 }) (Nat.le_refl _) hs fun _ _ _ => rfl).mono fun _ hb => .inl hb

theorem RetQ.mk {fn : Func} {R : Value → List HP → Prop} {v : Value} {m : List HP} (hr : Res P fn fr l v) (r : R v m) (he : Ent l m) : RetQ P fn R .ret [] fr l := ⟨[], l, v, m, rfl, Ent.refl _, hr, r, he⟩
theorem RetQ.nm {fn : Func} {R : Value → List HP → Prop} {v : Value} {m : List HP} (hr : Res P fn fr l v) (r : R v m) (he : Ent l m) : RetQ P fn R .normal [] fr l := ⟨[], l, v, m, rfl, Ent.refl _, hr, r, he⟩
/-- Behind ranges over functions. -/
theorem RetQ.mkR {fn : Func} {R : Value → List HP → Prop} {v : Value} {m l0 : List HP} {D : List Deferred} (gs : List Nat) (hd : D = gs.map mrk) (ht : Take l (gs.map dfr) l0) (hr : Res P fn fr l0 v) (r : R v m) (he : Ent l0 m) : RetQ P fn R .ret D fr l := ⟨gs, l0, v, m, hd, ht.ent, hr, r, he⟩
theorem RetQ.nmR {fn : Func} {R : Value → List HP → Prop} {v : Value} {m l0 : List HP} {D : List Deferred} (gs : List Nat) (hd : D = gs.map mrk) (ht : Take l (gs.map dfr) l0) (hr : Res P fn fr l0 v) (r : R v m) (he : Ent l0 m) : RetQ P fn R .normal D fr l := ⟨gs, l0, v, m, hd, ht.ent, hr, r, he⟩
theorem FrLe.nil : FrLe fr [] := trivial
theorem FrLe.cons {t : Nat} {v : Value} {gr : Fr} (h : Go.Proofs.Ytpoahaadnbdgcaa.lk fr t = some v) (r : FrLe fr gr) : FrLe fr ((t, v) :: gr) := ⟨h, r⟩
theorem AllObs.mk {ops : Array Oper} {vs : List Dr} {base : Fr} {o : Oper} {os : List Oper} {p : Dr} {ps : List Dr} (h : WpL P n D ops [o] (obQ D p.d p.v l) (depFr vs base p.ds) l) (r : AllObs P n D ops vs base l os ps) : AllObs P n D ops vs base l (o :: os) (p :: ps) := ⟨h, r⟩
theorem AllObs.nil {ops : Array Oper} {vs : List Dr} {base : Fr} : AllObs P n D ops vs base l [] [] := trivial
theorem obN {ops : Array Oper} {d : Nat} {v : Value} (h : lk fr d = some v) : WpL P n D ops [] (obQ D d v l) fr l := WpL.nil ⟨rfl, rfl, h, .refl _⟩
theorem obQ.mk {d : Nat} {v : Value} (h : lk fr d = some v) : obQ D d v l .normal D fr l := ⟨rfl, rfl, h, .refl _⟩
end
end Go.Proofs.Ytpoahaadnbdgcaa
