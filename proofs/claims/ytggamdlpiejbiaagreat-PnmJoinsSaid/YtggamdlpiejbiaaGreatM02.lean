/- Walks and plain laws, a part of the proof of PnmJoins: every input that the law's guards let in, no condition beside. -/
import Derived.OrdersIn
import Derived.IntWalk
import Derived.Maps.AppendAt
import Derived.Test.YtggamdlpiejbiaaGreatM01
namespace Go.Proofs.YtggamdlpiejbiaaGreat
open Go.RowKit Go.Shelf

def unl (listed : Array Bool) : Nat → Nat
  | 0 => 0
  | k + 1 => unl listed k + (if listed.getD k false = true then 0 else 1)
theorem Yu {listed : Array Bool} {i : Nat} (hi : i < listed.size) (j : Nat) (d : Bool) : (listed.setIfInBounds i true).getD j d = if i = j then true else listed.getD j d := by
  simp only [Array.getD, Array.size_setIfInBounds, Array.getInternal_eq_getElem]
  by_cases hj : j < listed.size
  · rw [dif_pos hj, dif_pos hj, Array.getElem_setIfInBounds (by simpa using hj)]
  · rw [dif_neg hj, dif_neg hj, if_neg (by omega)]
theorem unl_set {listed : Array Bool} {i : Nat} (hi : i < listed.size) (hf : listed.getD i false = false) : ∀ k, unl (listed.setIfInBounds i true) k + (if i < k then 1 else 0) = unl listed k
  | 0 => by simp [unl]
  | k + 1 => by
    have ih := unl_set hi hf k
    simp only [unl, Yu hi]
    by_cases e : i = k
    · subst e
      rw [if_neg (Nat.lt_irrefl i)] at ih
      simp [hf]; omega
    · rw [if_neg e]
      by_cases h : i < k
      · rw [if_pos h] at ih; rw [if_pos (show i < k + 1 by omega)]; split <;> omega
      · rw [if_neg h] at ih; rw [if_neg (show ¬ i < k + 1 by omega)]; split <;> omega
theorem unl_zero {listed : Array Bool} : ∀ {k : Nat}, unl listed k = 0 → ∀ i, i < k → listed.getD i false = true
  | 0, _, i, hi => by omega
  | k + 1, h, i, hi => by
    simp only [unl] at h
    by_cases e : i = k
    · subst e
      cases hb : listed.getD i false
      · rw [hb] at h; simp at h
      · rfl
    · exact unl_zero (k := k) (by omega) i (by omega)

section
variable {P : Program} {n : Cx} {D : List Deferred} {Q : Post} {fr : Fr} {l m : List HP}

theorem op_mono2 {F : Fence} {k : Nat} {o : Oper} {a : Act} {w : World} {K K' : Act → World → Prop} {Q Q' : Exit → Act → World → Prop} (h : ∀ a w, K a w → K' a w) (hq : ∀ e a w, e ≠ .normal → Q e a w → Q' e a w)
    (hh : o.wpIn F k P a w K Q) : o.wpIn F k P a w K' Q' := by
  unfold Oper.wpIn at *
  refine ⟨hh.1, ?_⟩
  have hh := hh.2
  generalize (o.semAt F.round a.eval).run P w = r at *
  cases r with
  | ok n w' =>
    cases n <;> simp only [Oper.uponIn] at hh ⊢ <;>
      first
        | exact h _ _ hh
        | exact ⟨hh.1, CallsIn.mono hh.2 (fun e w'' he => by cases e <;> first | exact h _ _ he | exact hq _ _ _ (fun x => nomatch x) he | exact (let ⟨a, w, x⟩ := he; ⟨a, w, hq _ _ _ (fun x => nomatch x) x⟩))⟩
        | exact ⟨hh.1, RoundIn.mono hh.2 (fun e w'' he => by cases e <;> first | exact h _ _ he | exact hq _ _ _ (fun x => nomatch x) he | exact (let ⟨a, w, x⟩ := he; ⟨a, w, hq _ _ _ (fun x => nomatch x) x⟩))⟩
        | exact ⟨hh.1, RowsIn.mono hh.2 (fun _ _ he => h _ _ he)⟩
  | halt x w' => cases x <;> simp only [Oper.uponIn] at hh ⊢ <;> first | exact hq _ _ _ (fun x => nomatch x) hh | exact hh
theorem op_put {F : Fence} {k : Nat} {o : Oper} {a : Act} {w : World} {K : Act → World → Prop} {Q : Exit → Act → World → Prop} (hh : o.wpIn F k P a w K Q) :
    o.wpIn F k P a w (fun a' w' => K a' w' ∧ ((∃ v, a' = a.put o.dst v) ∨ a'.defers ≠ a.defers)) Q := by
  unfold Oper.wpIn at *
  refine ⟨hh.1, ?_⟩
  have hh := hh.2
  generalize (o.semAt F.round a.eval).run P w = r at *
  cases r with
  | ok nx w' =>
    cases nx <;> simp only [Oper.uponIn] at hh ⊢ <;>
      first
        | exact ⟨hh, .inl ⟨_, rfl⟩⟩
        | exact ⟨hh, .inr (by cases o.dst <;> simp [Act.put])⟩
        | exact ⟨hh.1, CallsIn.mono hh.2 (fun e w'' he => by cases e <;> first | exact ⟨he, .inl ⟨_, rfl⟩⟩ | exact he)⟩
        | exact ⟨hh.1, RoundIn.mono hh.2 (fun e w'' he => by cases e <;> first | exact ⟨he, .inl ⟨_, rfl⟩⟩ | exact he)⟩
        | exact ⟨hh.1, RowsIn.mono hh.2 (fun _ _ he => ⟨he, .inl ⟨_, rfl⟩⟩)⟩
  | halt x w' => cases x <;> simp only [Oper.uponIn] at hh ⊢ <;> exact hh

def depOk (o : Oper) (ds : List Nat) : Bool := ds.all fun i => o.after.toList.any fun e => Region.binds .any e && e.on == i
/-- What an operation must do: its slot's value; the parts stay. -/
def obQ (D : List Deferred) (d : Nat) (v : Value) (l : List HP) : Post := fun e D' fr' l' => e = .normal ∧ D' = D ∧ lk fr' d = some v ∧ Ent l' l
structure Dr where
  d : Nat
  v : Value
  ds : List Nat
def depFr (vs : List Dr) (base : Fr) : List Nat → Fr
  | [] => base
  | i :: is => match vs[i]? with
    | some p => (p.d, p.v) :: depFr vs base is
    | none => depFr vs base is
def AllObs (P : Program) (n : Cx) (D : List Deferred) (ops : Array Oper) (vs : List Dr) (base : Fr) (l : List HP) : List Oper → List Dr → Prop
  | o :: os, p :: ps => WpL P n D ops [o] (obQ D p.d p.v l) (depFr vs base p.ds) l ∧ AllObs P n D ops vs base l os ps
  | _, _ => True
theorem AllObs.at {ops : Array Oper} {vs : List Dr} {base : Fr} : ∀ {os : List Oper} {ps : List Dr}, AllObs P n D ops vs base l os ps → ∀ (i : Nat) (o : Oper) (p : Dr), os[i]? = some o → ps[i]? = some p → WpL P n D ops [o] (obQ D p.d p.v l) (depFr vs base p.ds) l
  | o :: os, p :: ps, h, 0, o', p', ho, hp => by simp at ho hp; subst ho; subst hp; exact h.1
  | o :: os, p :: ps, h, i + 1, o', p', ho, hp => h.2.at i o' p' (by simpa using ho) (by simpa using hp)
  | [], _, _, i, _, _, ho, _ => by simp at ho
  | _ :: _, [], _, i, _, _, _, hp => by simp at hp
def okDs (base : Fr) : List Nat → Bool
  | [] => true
  | d :: ds => !ds.contains d && (base.all fun p => p.1 != d) && okDs base ds
def drawOk (os : List Oper) (vs : List Dr) (base : Fr) : Bool :=
  (os.map (·.dst) == vs.map fun p => some p.d) && okDs base (vs.map (·.d)) && (os.zip vs).all (fun (o, p) => depOk o p.ds) &&
  (os.zipIdx).all (fun (o, i) => o.after.toList.all fun e => !Region.binds .any e || Nat.blt e.on i)
def allFr (base : Fr) : List Dr → Fr
  | [] => base
  | p :: ps => (p.d, p.v) :: allFr base ps

theorem lk_mem : ∀ {fr : Fr} {t : Nat} {v : Value}, lk fr t = some v → ∃ p ∈ fr, p.1 = t
  | (k, u) :: fr, t, v, h => by
    simp only [lk] at h
    cases hb : Nat.beq k t with
    | true => exact ⟨(k, u), List.mem_cons_self, Nat.eq_of_beq_eq_true hb⟩
    | false => rw [hb] at h; obtain ⟨p, hp, e⟩ := lk_mem h; exact ⟨p, List.mem_cons_of_mem _ hp, e⟩
  | [], t, v, h => by simp [lk] at h
theorem okDs_base : ∀ {ds : List Nat} {base : Fr}, okDs base ds = true → ∀ (i d : Nat), ds[i]? = some d → ∀ (t : Nat) (v : Value), lk base t = some v → t ≠ d
  | d0 :: ds, base, h, i, d, hi, t, v, hl => by
    simp only [okDs, Bool.and_eq_true] at h
    cases i with
    | zero =>
      simp at hi; subst hi
      obtain ⟨p, hp, e⟩ := lk_mem hl
      have := List.all_eq_true.1 h.1.2 p hp
      rintro rfl
      simp [e] at this
    | succ i => exact okDs_base h.2 i d (by simpa using hi) t v hl
  | [], _, _, i, d, hi, _, _, _ => by simp at hi
theorem okDs_ne : ∀ {ds : List Nat} {base : Fr}, okDs base ds = true → ∀ (i j d e : Nat), ds[i]? = some d → ds[j]? = some e → i ≠ j → d ≠ e
  | d0 :: ds, base, h, i, j, d, e, hi, hj, hne => by
    simp only [okDs, Bool.and_eq_true, Bool.not_eq_true', List.contains_eq_mem, decide_eq_false_iff_not] at h
    cases i with
    | zero =>
      cases j with
      | zero => exact absurd rfl hne
      | succ j => simp at hi hj; subst hi; rintro rfl; exact h.1.1 (List.mem_of_getElem? hj)
    | succ i =>
      cases j with
      | zero => simp at hi hj; subst hj; rintro rfl; exact h.1.1 (List.mem_of_getElem? hi)
      | succ j => exact okDs_ne h.2 i j d e (by simpa using hi) (by simpa using hj) (by omega)
  | [], _, _, i, _, d, _, hi, _, _ => by simp at hi
theorem depFr_holds {a : Act} {vs : List Dr} {base : Fr} (hb : Holds n D a base) : ∀ (is : List Nat), (∀ i ∈ is, ∀ p, vs[i]? = some p → a.tmps.getD p.d undef = p.v) → Holds n D a (depFr vs base is)
  | [], _ => hb
  | i :: is, h => by
    have ih := depFr_holds hb is fun j hj => h j (List.mem_cons_of_mem _ hj)
    simp only [depFr]
    cases hp : vs[i]? with
    | none => exact ih
    | some p =>
      refine ⟨ih.1, ih.2.1, fun t v hv => ?_⟩
      simp only [lk] at hv
      cases hbq : Nat.beq p.d t with
      | true => rw [hbq] at hv; have := Nat.eq_of_beq_eq_true hbq; subst this; simp only [cond_true, Option.some.injEq] at hv; subst hv; exact h i List.mem_cons_self p hp
      | false => rw [hbq] at hv; exact ih.2.2 t v hv
theorem allFr_holds {a : Act} {base : Fr} (hb : Holds n D a base) : ∀ (vs : List Dr), (∀ p ∈ vs, a.tmps.getD p.d undef = p.v) → Holds n D a (allFr base vs)
  | [], _ => hb
  | p :: vs, h => by
    have ih := allFr_holds hb vs fun q hq => h q (List.mem_cons_of_mem _ hq)
    refine ⟨ih.1, ih.2.1, fun t v hv => ?_⟩
    simp only [allFr, lk] at hv
    cases hbq : Nat.beq p.d t with
    | true => rw [hbq] at hv; have := Nat.eq_of_beq_eq_true hbq; subst this; simp only [cond_true, Option.some.injEq] at hv; subst hv; exact h p List.mem_cons_self
    | false => rw [hbq] at hv; exact ih.2.2 t v hv

theorem put_getD {a : Act} {d t : Nat} {v : Value} (h : d ≠ t) : (a.put (some d) v).tmps.getD t undef = a.tmps.getD t undef := by
  simp only [Act.put, Array.getD, Array.size_setIfInBounds, Array.getInternal_eq_getElem]
  by_cases ht : t < a.tmps.size
  · rw [dif_pos ht, dif_pos ht, Array.getElem_setIfInBounds (by simpa using ht), if_neg h]
  · rw [dif_neg ht, dif_neg ht]

theorem draw_any {os : List Oper} {vs : List Dr} {base : Fr} (hok : drawOk os vs base = true) (obs : AllObs P n D os.toArray vs base l os vs) (kn : Q .normal D (allFr base vs) l) {w0 : World} {U : Nat → Prop} :
    ∀ (fuel : Nat) (listed : Array Bool) (a : Act) (w : World), listed.size = os.length → unl listed os.length ≤ fuel → Holds n D a base → (∀ i p, vs[i]? = some p → listed.getD i false = true → a.tmps.getD p.d undef = p.v) → Out l U w0 w →
      wpAnyIn (FR n.ro) 0 P .any os.toArray (After n Q U w0) fuel listed a w := by
  simp only [drawOk, Bool.and_eq_true, beq_iff_eq] at hok
  obtain ⟨⟨⟨hd, hds⟩, hdep⟩, hord⟩ := hok
  have hlen : os.length = vs.length := by simpa using congrArg List.length hd
  have fin : ∀ (listed : Array Bool) (a : Act) (w : World), (∀ i, i < os.length → listed.getD i false = true) → Holds n D a base → (∀ i p, vs[i]? = some p → listed.getD i false = true → a.tmps.getD p.d undef = p.v) → Out l U w0 w → After n Q U w0 .normal a w := by
    intro listed a w hall hb hv ho
    refine ⟨_, _, l, kn, allFr_holds hb vs fun p hp => ?_, ho⟩
    obtain ⟨i, hi⟩ := List.mem_iff_getElem?.1 hp
    exact hv i p hi (hall i (by rw [hlen]; exact (List.getElem?_eq_some_iff.1 hi).1))
  have noready : ∀ (listed : Array Bool), listed.size = os.length → Region.ready .any os.toArray listed = [] → ∀ i, i < os.length → listed.getD i false = true := by
    intro listed hsz hr i
    induction i using Nat.strongRecOn with
    | _ i ih =>
      intro hi
      cases hb : listed.getD i false with
      | true => rfl
      | false =>
        exfalso
        have hm : i ∈ Region.ready .any os.toArray listed := by
          refine mem_ready.2 ⟨?_, os[i], by simp [List.getElem?_eq_getElem hi], fun e he hbd => ?_⟩
          · simpa [Array.getD, hsz, hi] using hb
          · have h1 := List.all_eq_true.1 hord (os[i], i) (by rw [List.mem_zipIdx_iff_getElem?]; simp [List.getElem?_eq_getElem hi])
            have h2 := List.all_eq_true.1 h1 e (Array.mem_toList_iff.2 he)
            have h3 : e.on < i := by rw [hbd] at h2; exact Eq.mp Nat.blt_eq h2
            exact ih e.on h3 (by omega)
        rw [hr] at hm; cases hm
  intro fuel
  induction fuel with
  | zero =>
    intro listed a w hsz hu hb hv ho
    have hall := unl_zero (k := os.length) (Nat.le_zero.1 hu)
    refine ⟨?_, fin listed a w hall hb hv ho⟩
    refine List.eq_nil_iff_forall_not_mem.2 fun i hi => ?_
    obtain ⟨h1, o, ho', _⟩ := mem_ready.1 hi
    have hlt : i < os.length := by simpa using (Array.getElem?_eq_some_iff.1 ho').1
    have := hall i hlt
    simp [Array.getD, hsz, hlt] at this h1
    rw [this] at h1; cases h1
  | succ fuel ih =>
    intro listed a w hsz hu hb hv ho
    refine ⟨fun hr => fin listed a w (noready listed hsz hr) hb hv ho, fun i hi => ?_⟩
    obtain ⟨h1, o, ho', hedges⟩ := mem_ready.1 hi
    have hlt : i < os.length := by simpa using (Array.getElem?_eq_some_iff.1 ho').1
    have hoi : os[i]? = some o := by simpa using ho'
    have hnl : listed.getD i false = false := by simpa [Array.getD, hsz, hlt] using h1
    obtain ⟨p, hp⟩ : ∃ p, vs[i]? = some p := ⟨vs[i]'(by omega), List.getElem?_eq_getElem _⟩
    have hdst : o.dst = some p.d := by
      have := congrArg (fun x => x[i]?) hd
      simpa [hoi, hp] using this
    have hdp : depOk o p.ds = true := by
      refine List.all_eq_true.1 hdep (o, p) ?_
      refine List.mem_iff_getElem?.2 ⟨i, ?_⟩
      simp [List.getElem?_zip_eq_some, hoi, hp]
    have hfr : Holds n D a (depFr vs base p.ds) := by
      refine depFr_holds hb _ fun j hj q hq => ?_
      have h2 := List.all_eq_true.1 hdp j hj
      obtain ⟨e, he', hc⟩ := List.any_eq_true.1 h2
      have he := Array.mem_toList_iff.1 he'
      simp only [Bool.and_eq_true, beq_iff_eq] at hc
      obtain ⟨hc1, rfl⟩ := hc
      exact hv e.on q hq (hedges e he hc1)
    have hw := obs.at i o p hoi hp a w (Grow U w0) hfr ho.1
    unfold wpOpIn
    rw [ho']
    have step : ∀ a' w', After n (obQ D p.d p.v l) (Grow U w0) w .normal a' w' → (∃ v, a' = a.put (some p.d) v) → wpAnyIn (FR n.ro) 0 P .any os.toArray (After n Q U w0) fuel (listed.setIfInBounds i true) a' w' := by
      rintro a' w' ⟨D', fr', l', ⟨_, rfl, hl, he⟩, hh', ho2⟩ ⟨v, rfl⟩
      have hpv : (a.put (some p.d) v).tmps.getD p.d undef = p.v := hh'.2.2 _ _ hl
      refine ih _ _ _ (by simpa using hsz) ?_ ?_ ?_ (ho.then (ho2.ent he))
      · have := unl_set (listed := listed) (by omega) hnl os.length
        rw [if_pos hlt] at this
        omega
      · refine ⟨hh'.1, hh'.2.1, fun t u hu' => ?_⟩
        rw [put_getD (fun e => okDs_base hds i p.d (by simp [hp]) t u hu' e.symm)]
        exact hb.2.2 t u hu'
      · intro j q hq hlj
        by_cases e : i = j
        · subst e; rw [hp] at hq; cases hq; exact hpv
        · rw [Yu (by omega), if_neg e] at hlj
          rw [put_getD (okDs_ne hds i j p.d q.d (by simp [hp]) (by simp [hq]) e)]
          exact hv j q hq hlj
    unfold wpListIn at hw
    simp only [hdst] at hw ⊢
    split at hw
    · rename_i hwant
      rw [if_pos hwant]
      refine op_mono2 (fun a' w' hk => ?_) (fun e a' w' hne hk => ?_) (op_put hw)
      · obtain ⟨hk1, hk2⟩ := hk
        rw [hdst] at hk2
        rcases hk2 with hk2 | hk2
        · exact step a' w' hk1 hk2
        · obtain ⟨D', fr', l', ⟨_, rfl, _⟩, hh', _⟩ := hk1
          exact absurd (hh'.1.trans hb.1.symm) hk2
      · obtain ⟨_, _, _, ⟨e, _⟩, _⟩ := hk
        exact absurd e hne
    · rename_i hwant
      rw [if_neg hwant]
      exact ⟨hw.1, step _ _ hw.2 ⟨_, rfl⟩⟩

def inL (t : Nat) : List Nat → Bool
  | [] => false
  | d :: ds => cond (Nat.beq d t) true (inL t ds)
def Yt (ds : List Nat) : Fr → Fr
  | [] => []
  | (t, v) :: fr => cond (inL t ds) (Yt ds fr) ((t, v) :: Yt ds fr)
theorem inL_eq {t : Nat} : ∀ {ds : List Nat}, inL t ds = true ↔ t ∈ ds
  | [] => by simp [inL]
  | d :: ds => by
    simp only [inL]
    cases h : Nat.beq d t with
    | true => simp [Nat.eq_of_beq_eq_true h]
    | false =>
      have : t ≠ d := fun e => by subst e; simp at h
      simp [inL_eq (t := t) (ds := ds), this]
theorem Y2 {ds : List Nat} : ∀ {fr : Fr} {t : Nat} {v : Value}, lk (Yt ds fr) t = some v → lk fr t = some v ∧ t ∉ ds
  | [], t, v, h => by simp [Yt, lk] at h
  | (k, u) :: fr, t, v, h => by
    simp only [Yt] at h
    cases hi : inL k ds with
    | true =>
      rw [hi] at h
      obtain ⟨h1, h2⟩ := Y2 (fr := fr) h
      refine ⟨?_, h2⟩
      simp only [lk]
      cases hb : Nat.beq k t with
      | true => have := Nat.eq_of_beq_eq_true hb; subst this; exact absurd (inL_eq.1 hi) h2
      | false => exact h1
    | false =>
      rw [hi] at h
      simp only [cond_false, lk] at h ⊢
      cases hb : Nat.beq k t with
      | true =>
        rw [hb] at h
        have := Nat.eq_of_beq_eq_true hb; subst this
        exact ⟨h, fun hm => by rw [inL_eq.2 hm] at hi; cases hi⟩
      | false => rw [hb] at h; exact Y2 h
theorem Holds.dropK {a : Act} (h : Holds n D a fr) (ds : List Nat) : Holds n D a (Yt ds fr) := ⟨h.1, h.2.1, fun t v hv => h.2.2 t v (Y2 hv).1⟩

theorem unl_le {listed : Array Bool} : ∀ k, unl listed k ≤ k
  | 0 => Nat.le_refl _
  | k + 1 => by have := unl_le (listed := listed) k; simp only [unl]; split <;> omega
/-- A region that draws its order: vs: each operation's slot, value, and what it hangs on. -/
theorem Q0 {id : Nat} {os : List Oper} (hm : P.follows .mixedOrders = true) (vs : List Dr) (hok : drawOk os vs (Yt (vs.map (·.d)) fr) = true)
    (obs : AllObs P n D os.toArray vs (Yt (vs.map (·.d)) fr) l os vs) (k : Q .normal D (allFr (Yt (vs.map (·.d)) fr) vs) l) : Wp P n D (.region id os.toArray true) Q fr l := by
  intro a w U hh hs
  refine wpIn_region_any hm ?_
  refine draw_any hok obs k (w0 := w) (U := U) _ _ a _ (by simp) ?_ (hh.dropK _) ?_ ⟨?_, ⟨rfl, rfl, rfl, Nat.le_refl _, fun _ _ _ => rfl⟩⟩
  · simpa using unl_le (listed := Array.replicate os.length false) os.length
  · intro i p _ h
    simp [Array.getD] at h
  · exact (Sat.keep (w := w) (w' := { w with drawn := w.drawn + 1 }) (Nat.le_refl _) hs fun _ _ _ => rfl).mono fun _ hb => .inl hb

theorem RetQ.mk {fn : Func} {R : Value → List HP → Prop} {v : Value} {m : List HP} (hr : Res P fn fr l v) (r : R v m) (he : Ent l m) : RetQ P fn R .ret [] fr l := ⟨[], l, v, m, rfl, Ent.refl _, hr, r, he⟩
theorem YK {fn : Func} {R : Value → List HP → Prop} {v : Value} {m : List HP} (hr : Res P fn fr l v) (r : R v m) (he : Ent l m) : RetQ P fn R .normal [] fr l := ⟨[], l, v, m, rfl, Ent.refl _, hr, r, he⟩
/-- Behind ranges over functions. -/
theorem RetQ.mkR {fn : Func} {R : Value → List HP → Prop} {v : Value} {m l0 : List HP} {D : List Deferred} (gs : List Nat) (hd : D = gs.map mrk) (ht : Take l (gs.map dfr) l0) (hr : Res P fn fr l0 v) (r : R v m) (he : Ent l0 m) : RetQ P fn R .ret D fr l := ⟨gs, l0, v, m, hd, ht.ent, hr, r, he⟩
theorem FrLe.nil : FrLe fr [] := trivial
theorem FrLe.cons {t : Nat} {v : Value} {gr : Fr} (h : Go.Proofs.YtggamdlpiejbiaaGreat.lk fr t = some v) (r : FrLe fr gr) : FrLe fr ((t, v) :: gr) := ⟨h, r⟩
theorem AllObs.mk {ops : Array Oper} {vs : List Dr} {base : Fr} {o : Oper} {os : List Oper} {p : Dr} {ps : List Dr} (h : WpL P n D ops [o] (obQ D p.d p.v l) (depFr vs base p.ds) l) (r : AllObs P n D ops vs base l os ps) : AllObs P n D ops vs base l (o :: os) (p :: ps) := ⟨h, r⟩
theorem AllObs.nil {ops : Array Oper} {vs : List Dr} {base : Fr} : AllObs P n D ops vs base l [] [] := trivial
theorem Qm {ops : Array Oper} {d : Nat} {v : Value} (h : lk fr d = some v) : WpL P n D ops [] (obQ D d v l) fr l := WpL.nil ⟨rfl, rfl, h, .refl _⟩
end
end Go.Proofs.YtggamdlpiejbiaaGreat
namespace Go.Proofs.YtggamdlpiejbiaaGreat
open Go.RowKit Go.Shelf

theorem Qu {x : Int} (h1 : -9223372036854775808 ≤ x) (h2 : x ≤ 9223372036854775807) : IntKind.i64.wrap x = x := IntWalk.i64_in x ⟨h1, h2⟩
theorem w_u8 {x : Int} (h1 : 0 ≤ x) (h2 : x ≤ 255) : IntKind.u8.wrap x = x := by simp [IntKind.wrap, IntKind.bits, IntKind.signed]; omega
theorem Z6 {x : Int} (h1 : 0 ≤ x) (h2 : x ≤ 18446744073709551615) : IntKind.u64.wrap x = x := by simp [IntKind.wrap, IntKind.bits, IntKind.signed]; omega

section
variable {P : Program} {n : Cx} {D : List Deferred} {ops : Array Oper} {rest : List Oper} {Q : Post} {fr : Fr} {l m : List HP} {ty : Nat} {pos : String} {aft : Array Edge}

theorem QU {c : Operand} {x y : Code} {p : Prop} [Decidable p] (hc : ev fr c = some (.bool (decide p))) (hp : p) (h1 : Wp P n D x Q fr l) : Wp P n D (.cond c x y) Q fr l := Ql hc (fun _ => h1) (fun h => absurd hp h)
theorem Qz {c : Operand} {x y : Code} {p : Prop} [Decidable p] (hc : ev fr c = some (.bool (decide p))) (hp : ¬ p) (h1 : Wp P n D y Q fr l) : Wp P n D (.cond c x y) Q fr l := Ql hc (fun h => absurd h hp) (fun _ => h1)
theorem Wp.condBT {c : Operand} {x y : Code} {t : Bool} (hc : ev fr c = some (.bool t)) (hp : t = true) (h1 : Wp P n D x Q fr l) : Wp P n D (.cond c x y) Q fr l := X5 hc (fun _ => h1) (fun h => by rw [hp] at h; cases h)
theorem Wp.condBF {c : Operand} {x y : Code} {t : Bool} (hc : ev fr c = some (.bool t)) (hp : t = false) (h1 : Wp P n D y Q fr l) : Wp P n D (.cond c x y) Q fr l := X5 hc (fun h => by rw [hp] at h; cases h) (fun _ => h1)
theorem Qx {dj : Nat} {t : Bool} (hl : lk fr dj = some (.bool t)) (ht : t = true) (k : WpL P n D ops rest Q ((dj, .bool true) :: fr) l) : WpL P n D ops rest Q fr l := fun a w U hh hs => k a w U (hh.know hl (by rw [ht])) hs
theorem Qy {dj : Nat} {t : Bool} (hl : lk fr dj = some (.bool t)) (ht : t = false) (k : WpL P n D ops rest Q ((dj, .bool false) :: fr) l) : WpL P n D ops rest Q fr l := fun a w U hh hs => k a w U (hh.know hl (by rw [ht])) hs

/-- A guard whose QG operation was left out. -/
theorem Xb {d : Nat} {op : Op} {j dj : Nat} {b : Bool} (hd : Nat.blt d n = true) (hj : (ops[j]?).bind (·.dst) = some dj) (hl : lk fr dj = some undef)
    (k : WpL P n D ops rest Q ((d, undef) :: fr) l) : WpL P n D ops (⟨some d, op, ty, pos, aft, some (j, b)⟩ :: rest) Q fr l := by
  intro a w U hh hs
  have h1 := hh.2.2 dj _ hl
  have hy : yielded ops a.tmps j = none := by
    unfold yielded
    rw [hj]
    simp only [Option.bind_some]
    simp only [Array.getD] at h1
    split at h1
    · rename_i hs; rw [Array.getElem?_eq_getElem hs]; simp only [Array.getInternal_eq_getElem] at h1; rw [h1]; rfl
    · rename_i hs; rw [Array.getElem?_eq_none (Nat.not_lt.1 hs)]
  unfold wpListIn
  rw [if_neg (by simp [Region.wanted, hy])]
  exact ⟨fun _ _ => trivial, k _ w U (hh.put hd _) hs⟩
theorem dd {p q : Prop} [Decidable p] [Decidable q] (h : p ↔ q) : decide p = decide q := decide_eq_decide.2 h
theorem dt {p : Prop} [Decidable p] (h : p) : true = decide p := (decide_eq_true h).symm
theorem df {p : Prop} [Decidable p] (h : ¬ p) : false = decide p := (decide_eq_false h).symm

theorem XN {d T : Nat} {x : Operand} {p : Prop} [Decidable p] (hd : Nat.blt d n = true) (hx : ev fr x = some (.bool (decide p))) (k : WpL P n D ops rest Q ((d, .bool (decide (¬ p))) :: fr) l) : WpL P n D ops (⟨some d, .unOp .not T x, ty, pos, aft, none⟩ :: rest) Q fr l :=
  Zq hd hx (by rw [← decide_not]; exact k)
class OneC (v : Value) : Prop where
  eq : v.cells = #[v]
instance {k : IntKind} {i : Int} : OneC (.int k i) := ⟨rfl⟩
instance {b : Bool} : OneC (.bool b) := ⟨rfl⟩
instance {s : ByteArray} : OneC (.string s) := ⟨rfl⟩
instance {a : Option Addr} {m c : Nat} : OneC (.slice a m c) := ⟨rfl⟩
instance {a : Option Addr} : OneC (.pointer a) := ⟨rfl⟩
instance {f : Go.Fn} {u v : Array Value} : OneC (.func f u v) := ⟨rfl⟩
instance : OneC .nilFunc := ⟨rfl⟩
instance : OneC .nilIface := ⟨rfl⟩
instance {r : Option Nat} : OneC (.map r) := ⟨rfl⟩
instance {r : Option Nat} : OneC (.chan r) := ⟨rfl⟩
instance {t : Nat} {v : Value} : OneC (.iface t v) := ⟨rfl⟩
class PlAt (pl : List (Nat × Nat)) (i : Nat) (off sz : outParam Nat) : Prop where
  eq : pl[i]? = some (off, sz)
instance {off sz : Nat} {pl : List (Nat × Nat)} : PlAt ((off, sz) :: pl) 0 off sz := ⟨rfl⟩
instance {p : Nat × Nat} {pl : List (Nat × Nat)} {i off sz : Nat} [h : PlAt pl i off sz] : PlAt (p :: pl) (i + 1) off sz := ⟨h.eq⟩
class SetSeg (zs : List Value) (off : Nat) (us : List Value) (cs : outParam (List Value)) : Prop where
  eq : ∃ pre post, zs = pre ++ post ∧ pre.length = off ∧ us.length ≤ post.length ∧ cs = pre ++ us ++ post.drop us.length
instance SetSeg.nil {zs : List Value} : SetSeg zs 0 [] zs := ⟨[], zs, rfl, rfl, by simp, by simp⟩
instance SetSeg.zero {z u : Value} {zs us cs : List Value} [h : SetSeg zs 0 us cs] : SetSeg (z :: zs) 0 (u :: us) (u :: cs) := ⟨by
  obtain ⟨pre, post, rfl, h2, h3, rfl⟩ := h.eq
  have : pre = [] := List.eq_nil_of_length_eq_zero h2
  subst this
  exact ⟨[], z :: post, rfl, rfl, by simpa using h3, by simp⟩⟩
instance SetSeg.succ {z : Value} {zs us cs : List Value} {o : Nat} [h : SetSeg zs o us cs] : SetSeg (z :: zs) (o + 1) us (z :: cs) := ⟨by
  obtain ⟨pre, post, rfl, rfl, h3, rfl⟩ := h.eq
  exact ⟨z :: pre, post, rfl, rfl, h3, rfl⟩⟩
class LenC (us : List Value) (k : Nat) : Prop where
  eq : us.length = k
instance : LenC [] 0 := ⟨rfl⟩
instance {u : Value} {us : List Value} {k : Nat} [h : LenC us k] : LenC (u :: us) (k + 1) := ⟨by simp [h.eq]⟩
theorem foldl_seg (us : List Value) : ∀ (pre post : List Value), us.length ≤ post.length →
    us.toArray.zipIdx.foldl (fun cs (c, j) => cs.setIfInBounds (pre.length + j) c) (pre ++ post).toArray = (pre ++ us ++ post.drop us.length).toArray := by
  intro pre post h
  have key : ∀ (us done post : List Value), us.length ≤ post.length → (us.zipIdx done.length).foldl (fun cs (c, j) => cs.setIfInBounds (pre.length + j) c) (pre ++ done ++ post).toArray = (pre ++ done ++ us ++ post.drop us.length).toArray := by
    intro us
    induction us with
    | nil => intro done post _; simp
    | cons u us ih =>
      intro done post hl
      cases post with
      | nil => simp at hl
      | cons p post =>
        have := ih (done ++ [u]) post (by simpa using hl)
        simp only [List.zipIdx_cons, List.foldl_cons]
        simp only [List.length_append, List.length_cons, List.length_nil, Nat.zero_add] at this
        have e : (pre ++ done ++ p :: post).toArray.setIfInBounds (pre.length + done.length) u = (pre ++ (done ++ [u]) ++ post).toArray := by
          simp
        rw [e, this]
        simp
  have := key us [] post h
  simp only [List.length_nil, List.append_nil] at this
  rw [← this, ← Array.foldl_toList]
  simp
class FillC (zs : List Value) (pl : List (Nat × Nat)) (vs : List (Nat × Value)) (cs : outParam (List Value)) : Prop where
  eq : Instr.fill (fun i => pl.toArray[i]?) zs.toArray vs = some cs.toArray
instance {zs : List Value} {pl : List (Nat × Nat)} : FillC zs pl [] zs := ⟨rfl⟩
instance {zs zs' cs : List Value} {pl : List (Nat × Nat)} {vs : List (Nat × Value)} {i off : Nat} {v : Value} [hv : OneC v] [hp : PlAt pl i off 1] [hs : SetNth zs off v zs'] [hf : FillC zs' pl vs cs] : FillC zs pl ((i, v) :: vs) cs := ⟨by
  have h := hf.eq
  have h2 := hs.eq
  rw [h2.1] at h
  simp only [Instr.fill, List.getElem?_toArray, hp.eq, hv.eq]
  rw [if_neg (by simp; omega)]
  simpa using h⟩
instance {zs zs' cs us : List Value} {pl : List (Nat × Nat)} {vs : List (Nat × Value)} {i off sz : Nat} [hp : PlAt pl i off sz] [hs : SetSeg zs off us zs'] [hn : LenC us sz] [hf : FillC zs' pl vs cs] : FillC zs pl ((i, .agg us.toArray) :: vs) cs := ⟨by
  have h := hf.eq
  obtain ⟨pre, post, rfl, rfl, hl, rfl⟩ := hs.eq
  simp only [Instr.fill, List.getElem?_toArray, hp.eq, Value.cells]
  have hz := hn.eq
  rw [if_neg (by simp; omega)]
  rw [foldl_seg us pre post hl]
  simpa using h⟩
class BldT (P : Program) (T : Nat) (zs : outParam (List Value)) (pl : outParam (List (Nat × Nat))) : Prop where
  eq : ∀ (vs : List (Nat × Value)), P.built T vs = Instr.fill (fun i => pl.toArray[i]?) zs.toArray vs
def evp (fr : Fr) : List (Nat × Operand) → Option (List (Nat × Value))
  | [] => some []
  | (i, x) :: xs => match ev fr x with
    | some v => match evp fr xs with
      | some vs => some ((i, v) :: vs)
      | none => none
    | none => none
theorem evp_map {a : Act} (hh : Holds n D a fr) : ∀ (xs : List (Nat × Operand)) (vs : List (Nat × Value)), evp fr xs = some vs → (xs.map fun p => (p.1, a.eval p.2)) = vs
  | [], vs, h => by simp [evp] at h; simp [h]
  | (i, x) :: xs, vs, h => by
    simp only [evp] at h
    cases hx : ev fr x with
    | none => rw [hx] at h; cases h
    | some v =>
      rw [hx] at h
      cases hr : evp fr xs with
      | none => simp [hr] at h
      | some us =>
        simp only [hr, Option.some.injEq] at h
        rw [List.map_cons, hh.ev hx, evp_map hh xs us hr, h]
theorem YI {d T : Nat} {zs cs : List Value} {pl : List (Nat × Nat)} {os : List (Nat × Operand)} {vs : List (Nat × Value)} (hd : Nat.blt d n = true) [hT : BldT P T zs pl] (hv : evp fr os = some vs) [hc : FillC zs pl vs cs]
    (k : WpL P n D ops rest Q ((d, .agg cs.toArray) :: fr) l) : WpL P n D ops (⟨some d, .build T os.toArray, ty, pos, aft, none⟩ :: rest) Q fr l :=
  WpL.val hd (fun a w U hh hs => by
    have e : ((os.toArray.map fun (i, x) => (i, a.eval x)) : Array (Nat × Value)).toList = vs := by simpa using evp_map hh os vs hv
    have h := run_build w T (os.toArray.map fun (i, x) => (i, a.eval x)) cs.toArray (by rw [e, hT.eq, hc.eq])
    simp only [execOp, Sem.run_bind, h]
    simp) k
theorem QC {d t e sz by_ c m : Nat} {z : Value} {x : Operand} {a : Option Addr} (hd : Nat.blt d n = true) [ht : SlT P t e sz by_ z] (hx : ev fr x = some (.slice a m c)) (k : WpL P n D ops rest Q ((d, .int .i64 (m : Int)) :: fr) l) :
    WpL P n D ops (⟨some d, .call ⟨.builtin .len, #[x], #[t]⟩, ty, pos, aft, none⟩ :: rest) Q fr l :=
  WpL.val hd (fun A w _ hh _ => by simp [execOp, resolve, invoke, builtin, Builtin.len_, hh.ev hx, run_underlying ht.hu, goInt]) k
theorem s_lens {d t : Nat} {x : Operand} {s : ByteArray} (hd : Nat.blt d n = true) (ht : P.underlying t = some .string) (hx : ev fr x = some (.string s)) (k : WpL P n D ops rest Q ((d, .int .i64 (s.size : Int)) :: fr) l) :
    WpL P n D ops (⟨some d, .call ⟨.builtin .len, #[x], #[t]⟩, ty, pos, aft, none⟩ :: rest) Q fr l :=
  WpL.val hd (fun A w _ hh _ => by simp [execOp, resolve, invoke, builtin, Builtin.len_, hh.ev hx, run_underlying ht, goInt]) k
theorem s_max2 {d : Nat} {at_ : Array Nat} {x y : Operand} {kk : IntKind} {i j : Int} (hd : Nat.blt d n = true) (hx : ev fr x = some (.int kk i)) (hy : ev fr y = some (.int kk j)) (k : WpL P n D ops rest Q ((d, .int kk (max i j)) :: fr) l) :
    WpL P n D ops (⟨some d, .call ⟨.builtin .max, #[x, y], at_⟩, ty, pos, aft, none⟩ :: rest) Q fr l :=
  WpL.val hd (fun A w _ hh _ => by
    simp [execOp, resolve, invoke, builtin, Builtin.max_, Builtin.max2, hh.ev hx, hh.ev hy]
    omega) k
theorem s_min2 {d : Nat} {at_ : Array Nat} {x y : Operand} {kk : IntKind} {i j : Int} (hd : Nat.blt d n = true) (hx : ev fr x = some (.int kk i)) (hy : ev fr y = some (.int kk j)) (k : WpL P n D ops rest Q ((d, .int kk (min i j)) :: fr) l) :
    WpL P n D ops (⟨some d, .call ⟨.builtin .min, #[x, y], at_⟩, ty, pos, aft, none⟩ :: rest) Q fr l :=
  WpL.val hd (fun A w _ hh _ => by
    simp [execOp, resolve, invoke, builtin, Builtin.min_, Builtin.min2, hh.ev hx, hh.ev hy]
    omega) k
theorem s_ixs {d T : Nat} {x y : Operand} {s : ByteArray} {kk : IntKind} {i : Int} (hd : Nat.blt d n = true) (hT : P.underlying T = some .string) (hx : ev fr x = some (.string s)) (hy : ev fr y = some (.int kk i)) (h0 : 0 ≤ i) (h1 : i.toNat < s.size)
    (k : WpL P n D ops rest Q ((d, .int .u8 ((s[i.toNat]'h1).toNat : Int)) :: fr) l) : WpL P n D ops (⟨some d, .index T x y, ty, pos, aft, none⟩ :: rest) Q fr l :=
  WpL.val hd (fun A w _ hh _ => by
    have e : s[i.toNat]? = some (s[i.toNat]'h1) := by simp [h1]
    simp [execOp, Instr.index, hh.ev hx, hh.ev hy, asIntOf, run_underlying hT, h0, e]) k

theorem run_bs {t e by_ : Nat} {z : Value} [ht : SlT P t e 1 by_ z] (hz : z.cells.size = 1) (vs : List Value) (hv : ∀ v ∈ vs, v.cells = #[v]) (parts : Array (Nat × Value)) (hp : parts.toList = (vs.zipIdx).map (fun (v, i) => (i, v))) (hn : vs.length ≤ 1000) (w : World) :
    (Instr.buildSlice t vs.length parts).run P w = .ok (.slice (some ⟨w.heap.size, 0, none⟩) vs.length vs.length) (w.alloc (.cells vs.toArray e)) := by
  obtain ⟨i0, hi, hz0, hz1, hz2⟩ := info_parts ht.hi
  have hfill : ∀ (pre vs cells : List Value), (∀ v ∈ vs, v.cells = #[v]) → cells.length = vs.length →
      Instr.fill (fun i => some (i * 1, 1)) (pre ++ cells).toArray ((vs.zipIdx pre.length).map fun (v, i) => (i, v)) = some (pre ++ vs).toArray := by
    intro pre vs
    induction vs generalizing pre with
    | nil => intro cells _ hl; have : cells = [] := List.eq_nil_of_length_eq_zero (by simpa using hl); subst this; simp [Instr.fill]
    | cons v vs ih =>
      intro cells hv hl
      cases cells with
      | nil => simp at hl
      | cons c cells =>
        have hvc := hv v (by simp)
        have := ih (pre ++ [v]) cells (fun u hu => hv u (by simp [hu])) (by simpa using hl)
        simp only [List.zipIdx_cons, List.map_cons, Instr.fill, hvc]
        simp only [List.append_assoc, List.cons_append, List.nil_append, List.length_append, List.length_cons, List.length_nil] at this
        simpa using this
  have hs : ((Array.range (vs.length * 1)).map (z.cells[· % z.cells.size]!)) = (List.replicate vs.length (z.cells[0]!)).toArray := by
    apply Array.ext'
    simp [hz, Nat.mod_one, List.map_const']
  have h1 := hfill [] vs (List.replicate vs.length (z.cells[0]!)) hv (by simp)
  simp only [List.nil_append, List.length_nil] at h1
  simp only [Instr.buildSlice, Sem.run_bind, run_underlying ht.hu, Result.andThen_ok, sizeOf, typeInfo, run_program, hi, Sem.run_pure, hz1, zeroValue]
  rw [if_neg (by omega)]
  by_cases h0 : vs.length * 1 = 0
  · have : vs = [] := List.eq_nil_of_length_eq_zero (by simpa using h0)
    subst this
    have hpp : parts.toList = [] := by simpa using hp
    simp [hpp, Instr.fill, newRow, Array.range]
  · rw [if_neg h0]
    simp only [Sem.run_bind, Sem.run_pure, Result.andThen_ok, run_program, hi, hz0]
    rw [hp, hs, h1]
    simp [newRow]
theorem s_bs {d t e by_ m : Nat} {z : Value} {os : List (Nat × Operand)} (vs : List Value) (hd : Nat.blt d n = true) [ht : SlT P t e 1 by_ z] (hz : z.cells.size = 1) (hm : vs.length = m) (hv : ∀ v ∈ vs, v.cells = #[v]) (hn : vs.length ≤ 1000)
    (hp : ∀ a, Holds n D a fr → (os.map fun p => (p.1, a.eval p.2)) = (vs.zipIdx).map (fun (v, i) => (i, v)))
    (k : ∀ g, WpL P n D ops rest Q ((d, .slice (some ⟨g, 0, none⟩) m m) :: fr) (QA g vs e :: l)) : WpL P n D ops (⟨some d, .buildSlice t m os.toArray, ty, pos, aft, none⟩ :: rest) Q fr l := by
  subst hm
  refine XR hd (fun g => .slice (some ⟨g, 0, none⟩) vs.length vs.length) (fun g => QA g vs e :: l) (fun a w U hh hs => ⟨w.heap.size, _, ?_, Z3 hs vs e⟩) k
  have := run_bs (P := P) (t := t) hz vs hv (os.map fun p => (p.1, a.eval p.2)).toArray (by simpa using hp a hh) hn w
  simp only [execOp, Sem.run_bind]
  rw [show ((os.toArray.map fun (i, x) => (i, a.eval x)) : Array (Nat × Value)) = (os.map fun p => (p.1, a.eval p.2)).toArray from by simp, this]
  simp
theorem Yb {d t e by_ : Nat} {z v : Value} {x : Operand} (hd : Nat.blt d n = true) [ht : SlT P t e 1 by_ z] (hx : ev fr x = some v) (hz : z.cells.size = 1) (hv : v.cells = #[v])
    (k : ∀ g, WpL P n D ops rest Q ((d, .slice (some ⟨g, 0, none⟩) 1 1) :: fr) (QA g [v] e :: l)) : WpL P n D ops (⟨some d, .buildSlice t 1 #[(0, x)], ty, pos, aft, none⟩ :: rest) Q fr l :=
  s_bs (os := [(0, x)]) [v] hd hz rfl (by simpa using hv) (by simp) (fun a hh => by simp [hh.ev hx]) k

theorem s_bs2 {d t e by_ : Nat} {z v v2 : Value} {x x2 : Operand} (hd : Nat.blt d n = true) [ht : SlT P t e 1 by_ z] (hx : ev fr x = some v) (hx2 : ev fr x2 = some v2) (hz : z.cells.size = 1) (hv : v.cells = #[v]) (hv2 : v2.cells = #[v2])
    (k : ∀ g, WpL P n D ops rest Q ((d, .slice (some ⟨g, 0, none⟩) 2 2) :: fr) (QA g [v, v2] e :: l)) : WpL P n D ops (⟨some d, .buildSlice t 2 #[(0, x), (1, x2)], ty, pos, aft, none⟩ :: rest) Q fr l :=
  s_bs (os := [(0, x), (1, x2)]) [v, v2] hd hz rfl (by simp [hv, hv2]) (by simp) (fun a hh => by simp [hh.ev hx, hh.ev hx2]) k
theorem s_bs3 {d t e by_ : Nat} {z v v2 v3 : Value} {x x2 x3 : Operand} (hd : Nat.blt d n = true) [ht : SlT P t e 1 by_ z] (hx : ev fr x = some v) (hx2 : ev fr x2 = some v2) (hx3 : ev fr x3 = some v3) (hz : z.cells.size = 1) (hv : v.cells = #[v]) (hv2 : v2.cells = #[v2]) (hv3 : v3.cells = #[v3])
    (k : ∀ g, WpL P n D ops rest Q ((d, .slice (some ⟨g, 0, none⟩) 3 3) :: fr) (QA g [v, v2, v3] e :: l)) : WpL P n D ops (⟨some d, .buildSlice t 3 #[(0, x), (1, x2), (2, x3)], ty, pos, aft, none⟩ :: rest) Q fr l :=
  s_bs (os := [(0, x), (1, x2), (2, x3)]) [v, v2, v3] hd hz rfl (by simp [hv, hv2, hv3]) (by simp) (fun a hh => by simp [hh.ev hx, hh.ev hx2, hh.ev hx3]) k
theorem fill_arr (len : Nat) : ∀ (vs : List (Nat × Value)) (cs : Array Value), cs.size = len → Instr.fill (fun i => some (i * 1, 1)) cs vs = Instr.fill (fun i => ((List.range len).map fun i => (i, 1)).toArray[i]?) cs vs
  | [], _, _ => rfl
  | (i, v) :: vs, cs, h => by
    simp only [Instr.fill, Nat.mul_one, List.getElem?_toArray, List.getElem?_map]
    by_cases hi : i < len
    · rw [List.getElem?_range hi]
      simp only [Option.map_some]
      split
      · rfl
      · rename_i hc
        have ih := fill_arr len vs (v.cells.zipIdx.foldl (fun cs (c, j) => cs.setIfInBounds (i + j) c) cs) (by
          rw [← h]
          have key : ∀ (ls : List (Value × Nat)) (cs : Array Value), (ls.foldl (fun cs (c, j) => cs.setIfInBounds (i + j) c) cs).size = cs.size := by
            intro ls
            induction ls with
            | nil => intro cs; rfl
            | cons p ls ihh => intro cs; simp only [List.foldl_cons]; rw [ihh]; simp
          rw [← Array.foldl_toList]
          exact key _ _)
        simp only [Nat.mul_one, List.getElem?_toArray, List.getElem?_map] at ih
        exact ih
    · rw [List.getElem?_eq_none (by simp; omega)]
      simp only [Option.map_none]
      rw [if_pos]
      simp only [Bool.or_eq_true, decide_eq_true_eq]
      by_cases hs : v.cells.size = 1
      · right; omega
      · left; exact hs

theorem XM {w : World} {S : Nat → Prop} {T s c m : Nat} {a : Option Addr} {xs : List Value} (h : (QG T s a c m xs).p w S) : (a = none ∧ c = 0 ∧ m = 0 ∧ xs = []) ∨ ∃ g cur, a = some ⟨g, 0, none⟩ ∧ w.heap[g]? = some (.cells cur T (0, 0)) ∧ m ≤ c ∧ cur.size = c * s ∧ cur.toList.take (m * s) = xs ∧ xs.length = m * s := by
  rcases h.2.2 with ⟨e, rfl⟩ | ⟨g, cap, cur, e, _, hg, h1, _, h2, h3⟩
  · injection e with e1 e2 e3
    subst e1; subst e3
    have := h.2.1
    exact .inl ⟨rfl, rfl, rfl, List.eq_nil_of_length_eq_zero (by simpa using this)⟩
  · injection e with e1 e2 e3
    subst e1; subst e3
    exact .inr ⟨g, cur, rfl, hg, h1, h2, h3, h.2.1⟩
theorem slice_of_own {w : World} {T s m : Nat} {v : Value} {xs : List Value} {base : Nat} (h : w.ownsRow base T s v m xs) : ∃ a c, v = .slice a m c := by
  rcases h.2 with ⟨rfl, rfl⟩ | ⟨g, cap, cur, rfl, _⟩
  · exact ⟨_, _, rfl⟩
  · exact ⟨_, _, rfl⟩
/-- Cells appended to a row of one's QG. -/
theorem Vf {w : World} {U : Nat → Prop} {F : List HP} {t ty e s by_ : Nat} {z : Value} [ht : SlT P t e s by_ z] (hz : z.cells.size = s) (hs0 : 0 < s) {a : Option Addr} {c m : Nat} {xs : List Value} (h : Sat w (QG e s a c m xs :: F) U)
    (ad : Addr) (q c2 : Nat) (news : List Value) (hl : news.length = q * s) (hn : ∀ j u, news[j]? = some u → w.cell? (ad.add j) = some u) (h1 : ∀ u ∈ news, u.oneCell' = true) (hb : (m + q) * by_ ≤ 140737488355328) (hm : m + q ≤ 140737488355328) :
    ∃ a' c' w', (Builtin.append_ #[t, t] ty #[.slice a m c, .slice (some ad) q c2]).run P w = .ok (.slice a' (m + q) c') w' ∧ Out (QG e s a' c' (m + q) (xs ++ news) :: F) U w w' := by
  obtain ⟨V, ⟨S, ⟨hS, hown⟩, hSV, _⟩, hfr⟩ := Out.frame (pre := [QG e s a c m xs]) (F := F) h
  obtain ⟨i0, hi, hz0, hz1, hz2⟩ := info_parts ht.hi
  obtain ⟨v', w', hr, hown', hg, _, hat⟩ := run_append_own_at (P := P) w 0 t ty e i0 z s by_ ht.hu hi hz0 hz1 hz2 hz hs0 _ m xs hown ad q c2 news hl hn h1 (by unfold maxLen; omega) hb (Nat.zero_le _)
  obtain ⟨a', c', rfl⟩ := slice_of_own hown'
  have hob : ∀ b, some b = (Value.slice a m c).ownBlock → V b := by
    intro b e
    refine hSV b ((hS b).2 ?_)
    cases a with
    | none => simp [Value.ownBlock] at e
    | some ad0 => simp [Value.ownBlock] at e; exact ⟨ad0, rfl, e⟩
  refine ⟨a', c', w', hr, hfr [QG e s a' c' (m + q) (xs ++ news)] w' ⟨⟨fun b => ∃ ad, a' = some ad ∧ b = ad.block, ⟨fun _ => Iff.rfl, hown'⟩, ?_, trivial⟩, hg.os, hg.tape, hg.output, hg.size, ?_⟩⟩
  · rintro b ⟨ad', rfl, rfl⟩
    rcases hat with hat | hat
    · exact .inl (hob _ hat)
    · simp only [Value.ownBlock, Option.some.injEq] at hat
      exact .inr (Nat.le_of_eq hat.symm)
  · exact fun b hb' hnV => hg.block b hb' fun e => hnV (hob b e)
theorem XA {d t e s by_ : Nat} {z : Value} {x y : Operand} {a : Option Addr} {c m g2 q c2 T2 : Nat} {xs news : List Value} {F : List HP} (hd : Nat.blt d n = true) [ht : SlT P t e s by_ z] (hx : ev fr x = some (.slice a m c)) (hy : ev fr y = some (.slice (some ⟨g2, 0, none⟩) q c2))
    (htk : Take l [QG e s a c m xs, QA g2 news T2] F) (hz : z.cells.size = s) (hs : Nat.blt 0 s = true) (hl : news.length = q * s) (h1 : news.all Value.oneCell' = true) (hb : (m + q) * by_ ≤ 140737488355328) (hm : m + q ≤ 140737488355328)
    (k : ∀ a' c', WpL P n D ops rest Q ((d, .slice a' (m + q) c') :: fr) (QG e s a' c' (m + q) (xs ++ news) :: F)) : WpL P n D ops (⟨some d, .call ⟨.builtin .append, #[x, y], #[t, t]⟩, ty, pos, aft, none⟩ :: rest) Q fr l := by
  refine XR (σ := Option Addr × Nat) hd (fun p => .slice p.1 (m + q) p.2) (fun p => QG e s p.1 p.2 (m + q) (xs ++ news) :: F) (fun A w U hh hs' => ?_) (fun p => k p.1 p.2)
  have h2 := htk.ent w U hs'
  have hg2 : w.heap[g2]? = some (.cells news.toArray T2 (0, 0)) := by
    obtain ⟨_, _, _, S, hp, _⟩ := h2
    exact hp.2
  obtain ⟨a', c', w', hr, ho⟩ := Vf (P := P) (t := t) (ty := ty) hz (Eq.mp Nat.blt_eq hs) h2 ⟨g2, 0, none⟩ q c2 news hl (fun j u hu => by rw [ZY, cell_of_row w g2 _ _ _ _ hg2]; simpa using hu) (fun u hu => List.all_eq_true.1 h1 u hu) hb hm
  refine ⟨(a', c'), w', ?_, ho.ent (Ent.cons (Ent.drop (Ent.refl _)))⟩
  simp [execOp, resolve, invoke, builtin, hh.ev hx, hh.ev hy, hr]
theorem Y9 {w : World} {S : Nat → Prop} {T s c m : Nat} {a : Option Addr} {xs : List Value} (h : (QG T s a c m xs).p w S) {ad : Addr} (ha : a = some ad) (j : Nat) (u : Value) (hu : xs[j]? = some u) : w.cell? (ad.add j) = some u := by
  rcases XM h with ⟨e, _⟩ | ⟨g, cur, e, hg, _, _, h3, _⟩
  · rw [e] at ha; cases ha
  · rw [e] at ha
    injection ha with ha
    subst ha
    rw [ZY, cell_of_row w g _ _ _ _ hg]
    rw [← h3, List.getElem?_take] at hu
    split at hu
    · simpa using hu
    · cases hu
/-- append(s, t...), t a row of one's QG. -/
theorem s_appo {d t e s by_ : Nat} {z : Value} {x y : Operand} {a a2 : Option Addr} {c m c2 m2 : Nat} {xs ys : List Value} {F : List HP} (hd : Nat.blt d n = true) [ht : SlT P t e s by_ z] (hx : ev fr x = some (.slice a m c)) (hy : ev fr y = some (.slice a2 m2 c2))
    (htk : Take l [QG e s a c m xs, QG e s a2 c2 m2 ys] F) (hz : z.cells.size = s) (hs : Nat.blt 0 s = true) (h1 : ∀ u ∈ ys, u.oneCell' = true) (hb : (m + m2) * by_ ≤ 140737488355328) (hm : m + m2 ≤ 140737488355328)
    (k : ∀ a' c', WpL P n D ops rest Q ((d, .slice a' (m + m2) c') :: fr) (QG e s a' c' (m + m2) (xs ++ ys) :: QG e s a2 c2 m2 ys :: F)) : WpL P n D ops (⟨some d, .call ⟨.builtin .append, #[x, y], #[t, t]⟩, ty, pos, aft, none⟩ :: rest) Q fr l := by
  refine XR (σ := Option Addr × Nat) hd (fun p => .slice p.1 (m + m2) p.2) (fun p => QG e s p.1 p.2 (m + m2) (xs ++ ys) :: QG e s a2 c2 m2 ys :: F) (fun A w U hh hs' => ?_) (fun p => k p.1 p.2)
  have h2 := htk.ent w U hs'
  have h2' := h2
  obtain ⟨S1, hp1, _, S2, hp2, _⟩ := h2'
  have hl2 := hp2.2.1
  cases a2 with
  | none =>
    rcases XM hp2 with ⟨_, rfl, rfl, rfl⟩ | ⟨_, _, e0, _⟩
    · refine ⟨(a, c), w, ?_, (Out.refl h2).ent ?_⟩
      · obtain ⟨i0, hi, hz0, hz1, hz2⟩ := info_parts ht.hi
        have hle : m ≤ c := by rcases XM hp1 with ⟨_, h, h', _⟩ | ⟨_, _, _, _, h, _⟩ <;> omega
        simp [execOp, resolve, invoke, builtin, hh.ev hx, hh.ev hy, Builtin.append_, run_underlying ht.hu, sizeOf, typeInfo, hi, Builtin.lenOf, hle, Builtin.firstCells, storeCells]
        cases a <;> simp
      · simp only [Nat.add_zero, List.append_nil]; exact Ent.refl _
    · cases e0
  | some ad =>
    obtain ⟨a', c', w', hr, ho⟩ := Vf (P := P) (t := t) (ty := ty) hz (Eq.mp Nat.blt_eq hs) h2 ad m2 c2 ys hl2 (fun j u hu => Y9 hp2 rfl j u hu) h1 hb hm
    exact ⟨(a', c'), w', by simp [execOp, resolve, invoke, builtin, hh.ev hx, hh.ev hy, hr], ho⟩
/-- A struct stored whole into a variable of its QG. -/
theorem sat_row {w : World} {U : Nat → Prop} {g : Nat} {cs ds : List Value} {T : Nat} {F : List HP} (h : Sat w (QA g cs T :: F) U) : Out (QA g ds T :: F) U w (w.setRow g ds.toArray) := by
  obtain ⟨V, ⟨S, ⟨hS, hg⟩, hSV, _⟩, hfr⟩ := Out.frame (pre := [QA g cs T]) (F := F) h
  refine hfr [QA g ds T] _ ⟨⟨S, ⟨hS, setRow_heap w g _ _ T _ hg⟩, fun b hb => .inl (hSV b hb), trivial⟩, rfl, rfl, rfl, by simp, fun b hb hn => ?_⟩
  exact setRow_other w g b _ (fun e => hn (hSV b ((hS b).2 e)))
theorem XL {T g : Nat} {x y : Operand} {cs vs : List Value} {T2 kk : Nat} {l' : List HP} [hT : AggT P T kk] (hx : ev fr x = some (.pointer (some ⟨g, 0, none⟩))) (hy : ev fr y = some (.agg vs.toArray)) (hn : vs.length = kk)
    [hb : HasBlk l g cs T2] [hsb : SetBlk l g vs l'] (hc : cs.length = kk) (h1 : vs.all Value.oneCell' = true) (k : WpL P n D ops rest Q fr l') : WpL P n D ops (⟨none, .store T x y, ty, pos, aft, none⟩ :: rest) Q fr l := by
  refine WpL.skp (m := l') (fun a w U hh hs => ?_) k
  obtain ⟨m, ds, T3, ht, he, _⟩ := hsb.take
  have hs2 := ht.ent w U hs
  have hg1 := hb.sat hs
  have hg2 : w.heap[g]? = some (.cells ds.toArray T3 (0, 0)) := by obtain ⟨S, hp, _⟩ := hs2; exact hp.2
  refine ⟨w.setRow g vs.toArray, ?_, (sat_row hs2).ent he⟩
  have hst := run_storeCells_at P g 0 T2 vs 0 cs.toArray w hg1 (by simp; omega) (fun v hv => List.all_eq_true.1 h1 v hv)
  simp only [Nat.zero_add, List.take_zero, List.nil_append] at hst
  have hdrop : cs.toArray.toList.drop vs.length = [] := by simp; omega
  rw [hdrop, List.append_nil] at hst
  simp [execOp, hh.ev hx, hh.ev hy, Instr.storeAt, Instr.sureAddr, storeVar, Value.cells, hT.size, hn, hst]
theorem XO {fn : Func} {t T g k : Nat} {cs : List Value} {T2 : Nat} [hT : AggT P T k] (h : fn.results = #[.cell t T]) (hv : lk fr t = some (.pointer (some ⟨g, 0, none⟩))) [hb : HasBlk l g cs T2] (hc : cs.length = k) : Res P fn fr l (.agg cs.toArray) := fun _ _ a w _ hh hs => by
  have e : (results fn a.tmps).run P w = ((asAddr (a.tmps.getD t undef)).run P w).andThen fun ad w1 => (loadVar T ad).run P w1 := by
    simp only [results, h]
    simp [Result.andThen]
  have hl := run_loadCells_list (P := P) w ⟨g, 0, none⟩ cs (fun j v hj => by rw [ZY, cell_of_row w g _ _ _ _ (hb.sat hs)]; simpa using hj)
  rw [hc] at hl
  rw [e, hh.2.2 _ _ hv]
  simp [asAddr, loadVar, hT.agg, hT.size, hl]
theorem ZD {fn : Func} {t T u g k : Nat} {cs : List Value} {T2 : Nat} {x : Value} [hT : AggT P T k] (h : fn.results = #[.cell t T, .tmp u]) (hv : lk fr t = some (.pointer (some ⟨g, 0, none⟩))) [hb : HasBlk l g cs T2] (hc : cs.length = k) (hx : lk fr u = some x) : Res P fn fr l (.tuple #[.agg cs.toArray, x]) := fun _ _ a w _ hh hs => by
  have hl := run_loadCells_list (P := P) w ⟨g, 0, none⟩ cs (fun j v hj => by rw [ZY, cell_of_row w g _ _ _ _ (hb.sat hs)]; simpa using hj)
  rw [hc] at hl
  have e1 := hh.2.2 _ _ hv
  have e2 := hh.2.2 _ _ hx
  simp only [Array.getD_eq_getD_getElem?] at e1 e2
  simp [results, h, e1, e2, asAddr, loadVar, hT.agg, hT.size, hl]
end
end Go.Proofs.YtggamdlpiejbiaaGreat
